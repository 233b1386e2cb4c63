/- The document's spells, relics, and its other cards. -/
import Derived.Test.YthfalocligkamaaGreatDoorMRef08
import Derived.Deep.RegionHeld3
namespace Go.Proofs.YthfalocligkamaaGreatDoor
open Go Go.RowKit
@[go_sem] theorem z2e (w : World) (s : Sl) (q : IntKind) (i : Int) (h0 : 0 ≤ i) (h1 : i < s.n) : (Instr.indexAt 154 s.val (.int q i)).run Tryz.prog w = .ok (.pointer (some ⟨s.b, s.o + i.toNat, none⟩)) w := by
 rw [zbh w Tryz.underlying154 (fun w => (by kernel_rfl : (sizeOf 23).run Tryz.prog w = .ok 1 w)) s q i h0 h1, Nat.mul_one]
theorem LL.row {w : World} {m : Nat} {s : Sl} {ll : List (List Int)} (h : LL w m s ll) (i : Nat) (l : List Int) (hl : ll[i]? = some l) : ∃ x : Sl, m ≤ x.b ∧ w.cell? ⟨s.b, s.o + i, none⟩ = some x.val ∧ Ints w x l := by
 obtain ⟨b, h0, h1, h2⟩ := h.at' i l hl
 exact ⟨.mk b 0 l.length l.length, h0, h1, h2⟩
theorem zcj {w w' : World} {b o : Nat} {v : Value} (g : Grow w w') (h : w.cell? ⟨b, o, none⟩ = some v) : w'.cell? ⟨b, o, none⟩ = some v := by
 have hb : b < w.heap.size := by
  rcases Nat.lt_or_ge b w.heap.size with h' | h'
  · exact h'
  · rw [World.cell?, show w.heap[b]? = none from Array.getElem?_eq_none (by omega)] at h; simp at h
 obtain ⟨y, rfl⟩ := g
 rw [zd6, if_pos hb, h]
theorem zfe {w : World} {A B B' o2 : Obj} {x : Ext} {b o : Nat} {v : Value} (h : (((w.alloc A).alloc B).plus x).cell? ⟨b, o, none⟩ = some v) (hb : ¬ b = w.heap.size + 1) : ((((w.alloc A).alloc B').plus x).alloc o2).cell? ⟨b, o, none⟩ = some v := by
 have ho : Off (w.heap.size + 1) (((w.alloc A).alloc B).plus x) (((w.alloc A).alloc B').plus x) := (by repeat (first | exact Off.base _ _ _ _ (zaa _ _).symm | refine Off.plus ?_ _ | refine Off.alloc ?_ _))
 refine zcj ((Grow.refl _).alloc _) ?_
 rw [World.cell?_of_block (ho.block b hb), h]
theorem zet : ∀ i, i < 30 → ∃ q, q ≤ 3 ∧ (magicL.getD i []).length = 4 * (q + 1) + 1 := by
 intro i hi
 have : ∀ i, i < 30 → (magicL.getD i []).length = 5 ∨ (magicL.getD i []).length = 9 ∨ (magicL.getD i []).length = 13 := by decide
 rcases this i hi with h | h | h
 · exact ⟨0, by omega, h⟩
 · exact ⟨1, by omega, h⟩
 · exact ⟨2, by omega, h⟩
theorem zew : ∀ i, i < 20 → ∃ q, q ≤ 3 ∧ (relicL.getD i []).length = 4 * (q + 2) ∧ (gt (relicL.getD i []) 1 = -1 ∨ gt (relicL.getD i []) 1 = 1 ∨ gt (relicL.getD i []) 1 = 5) := by
 intro i hi
 have h1 : ∀ i, i < 20 → (relicL.getD i []).length = 8 ∨ (relicL.getD i []).length = 12 := by decide
 have h2 : ∀ i, i < 20 → (gt (relicL.getD i []) 1 = -1 ∨ gt (relicL.getD i []) 1 = 1 ∨ gt (relicL.getD i []) 1 = 5) := by decide
 rcases h1 i hi with h | h
 · exact ⟨0, by omega, h, h2 i hi⟩
 · exact ⟨1, by omega, h, h2 i hi⟩
theorem zhh (i : Nat) (hi : i < 20) : relicL[i]? = some (relicL.getD i []) := by
 rw [List.getD_eq_getElem?_getD]
 have : i < relicL.length := hi
 rw [List.getElem?_eq_getElem this]; rfl
theorem EfIs.turn {w : World} {A A' B B' : Obj} {x : Ext} {n : Nat} {a : EfV} {f : EfF} (h : EfIs (((w.alloc A).alloc B).plus x) n a f) (hn : w.heap.size + 2 ≤ n) : EfIs (((w.alloc A').alloc B').plus x) n a f :=
 (h.off (b := w.heap.size + 1) (w' := ((w.alloc A).alloc B').plus x) (by repeat (first | exact Off.base _ _ _ _ (zaa _ _).symm | refine Off.plus ?_ _ | refine Off.alloc ?_ _)) (by omega)).off (b := w.heap.size) (by repeat (first | exact Off.base _ _ _ _ rfl | refine Off.plus ?_ _ | refine Off.alloc ?_ _)) (by omega)
theorem zg7 (i : Nat) (hi : i < 30) : magicL[i]? = some (magicL.getD i []) := by
 rw [List.getD_eq_getElem?_getD]
 have : i < magicL.length := hi
 rw [List.getElem?_eq_getElem this]; rfl
end Go.Proofs.YthfalocligkamaaGreatDoor
namespace Go.Proofs.YthfalocligkamaaGreatDoor
open Go Go.RowKit
set_option maxRecDepth 100000 in
set_option maxHeartbeats 8000000 in
theorem zru (w : World) (k : Nat) (hk : k < 6) : Calls Tryz.prog 88 #[.int .i64 (5 * (k : Int) + 50)] w fun r w' => zcz w w' r (zaq (5 * k + 50)) := by
 have HC0 : Hid (zaq (5 * k + 50) = zfb 0 k) := by
  rw [Hid, zaq, if_neg (by omega), if_neg (by omega), if_neg (by omega), if_pos (by omega), show (5 * k + 50 - 50) % 5 = 0 by omega, show (5 * k + 50 - 50) / 5 = k by omega]
 have q1 : (5 * (k : Int) + 50 - 50) / 5 = k := by omega
 have q1' : (5 * (k : Int)) / 5 = k := by omega
 have e9 : 5 * (k : Int) + 50 - 50 = 5 * (k : Int) := by omega
 have q2 : (5 * (k : Int) + 50) % 5 = 0 := by omega
 have hk6 : (k : Int) < 6 := by omega
 obtain ⟨q, hq, hrow⟩ := zet (5 * k) (by omega)
 have hat := zg7 (5 * k) (by omega)
 have HC : Hid (zaq (5 * k + 50) = ⟨2, 0, k % 2 == 0, [1, 0, 0, 0, 0, (k : Int)], 0, 0, 0, [⟨0, noCost, false, gt (magicL.getD (5 * k) []) 0, effL ((magicL.getD (5 * k) []).drop 1)⟩]⟩) := by rw [Hid, HC0.out]; simp [zfb, za8, noCost]
 generalize magicL.getD (5 * k) [] = row at *
 have HAT := Lib.hid hat
 have e0 : (0 : Int) ≤ 5 * (k : Int) := by omega
 have e1 : 5 * (k : Int) < 30 := by omega
 have e2 : (5 * (k : Int)).toNat = 5 * k := by omega
 have e3 : ((k : Int) % 2 == 0) = (k % 2 == 0) := by rcases Nat.mod_two_eq_zero_or_one k with h | h <;> simp [h] <;> omega
 clear hat
 go_enter Tryz.func88, Tryz.ntmps88
 go_wp2_with (go_at_call 123; refine (zd2 _).mono ?_; rintro e' w' ⟨s, rfl, hs, nx, rfl⟩; obtain ⟨sl, hb0, hb1, hb2⟩ := hs.row _ _ HAT.out; have hsn : s.n = 30 := hs.len; have HB := Lib.hid (And.intro hb0 hb2); clear hb0 hb2 hs)
 have hnl := HB.out.2.len
 have hb := HB.out.1
 simp only [zaa] at hb
 have n0 : 0 < sl.n := by omega
 have n1 : (1 : Int) ≤ sl.n := by omega
 have hI : Ints (((w.alloc (.cells (CdV.arr ⟨0, 0, false, 0, 0, 0, 0, 0, 0, 0, 0, 0, .nil⟩) 99)).alloc (.cells (CdV.arr ⟨2, 0, k % 2 == 0, 1, 0, 0, 0, 0, (k : Int), 0, 0, 0, .nil⟩) 99)).plus nx) sl row := HB.out.2.off (b := w.heap.size + 1) (by repeat (first | exact Off.base _ _ _ _ (zaa _ _).symm | refine Off.plus ?_ _ | refine Off.alloc ?_ _)) (fun _ => by omega)
 have hc0 : (((w.alloc (.cells (CdV.arr ⟨0, 0, false, 0, 0, 0, 0, 0, 0, 0, 0, 0, .nil⟩) 99)).alloc (.cells (CdV.arr ⟨2, 0, k % 2 == 0, 1, 0, 0, 0, 0, (k : Int), 0, 0, 0, .nil⟩) 99)).plus nx).cell? ⟨sl.b, sl.o, none⟩ = some (.int .i64 (gt row 0)) := (hI.at 0 (by omega)).2
 have hbs : sl.b < w.heap.size + 1 + 1 + nx.objs.size := by have := (hI.at 0 (by omega)).1; simp only [zac, zaa] at this; exact this
 have HI := Lib.hid hI
 have HE := Lib.hid (fun W (g : Grow (((w.alloc (.cells (CdV.arr ⟨0, 0, false, 0, 0, 0, 0, 0, 0, 0, 0, 0, .nil⟩) 99)).alloc (.cells (CdV.arr ⟨2, 0, k % 2 == 0, 1, 0, 0, 0, 0, (k : Int), 0, 0, 0, .nil⟩) 99)).plus nx) W) => zc1 W (sl.aft 1) (row.drop 1) ((HI.out.grow g).aft 1 (by omega)) q (by simp; omega) (by omega))
 clear hI HB hnl hrow hb1 e0 e1 e2 q1 q1' q2 e9
 have hn1 : ¬ sl.b = w.heap.size := by omega
 have hn2 : ¬ sl.b = w.heap.size + 1 := by omega
 go_region_held3 (fun W => W.cell? ⟨sl.b, sl.o, none⟩ = some (.int .i64 (gt row 0))) (first | exact zfe (B := (.cells (CdV.arr ⟨2, 0, k % 2 == 0, 1, 0, 0, 0, 0, (k : Int), 0, 0, 0, .nil⟩) 99)) (zcj grI hc0) hn2 | exact zcj grI hc0) (first | (go_at_call 124; refine (HE.out _ grI).mono ?_; rintro e' w' ⟨x, rfl, hx, nx2, rfl⟩; (try simp only [zae] at hx); (try simp only [zad] at hx); have HX := Lib.hid hx; clear hx))
 all_goals
  go_wp2_with fail
  refine bodyPost_ret (zaj rfl _ _ _ rfl ?_) rfl ?_
  · go_simp
  rw [HC.out]
  refine ⟨_, (by go_simp; rfl), ⟨rfl, rfl, rfl, rfl, rfl, rfl, rfl, ?_⟩, grI⟩
  refine ⟨[_], RowsV.one (x := AbV.arr _) (by go_simp) (by go_simp; rfl) (by go_simp), .inr (by first | (go_simp; done) | (go_simp; omega) | (simp only [Sl.b]; go_simp; omega)), .cons ⟨rfl, rfl, rfl, rfl, ?_⟩ .nil⟩
  exact ((HX.out.turn (by simp only [zar, zac, zaa]; omega)).less (by simp only [zar, zac, zaa]; omega)).grow grI
set_option maxRecDepth 100000 in
set_option maxHeartbeats 8000000 in
theorem zrv (w : World) (k : Nat) (hk : k < 6) : Calls Tryz.prog 88 #[.int .i64 (5 * (k : Int) + 51)] w fun r w' => zcz w w' r (zaq (5 * k + 51)) := by
 have HC0 : Hid (zaq (5 * k + 51) = zfb 1 k) := by
  rw [Hid, zaq, if_neg (by omega), if_neg (by omega), if_neg (by omega), if_pos (by omega), show (5 * k + 51 - 50) % 5 = 1 by omega, show (5 * k + 51 - 50) / 5 = k by omega]
 have q1 : (5 * (k : Int) + 51 - 50) / 5 = k := by omega
 have q1' : (5 * (k : Int) + 1) / 5 = k := by omega
 have e9 : 5 * (k : Int) + 51 - 50 = 5 * (k : Int) + 1 := by omega
 have q2 : (5 * (k : Int) + 51) % 5 = 1 := by omega
 have hk6 : (k : Int) < 6 := by omega
 obtain ⟨q, hq, hrow⟩ := zet (5 * k + 1) (by omega)
 have hat := zg7 (5 * k + 1) (by omega)
 have HC : Hid (zaq (5 * k + 51) = ⟨2, 1, k % 2 == 0, [0, 1, 0, 0, 0, (k : Int)], 0, 0, 0, [⟨0, noCost, false, gt (magicL.getD (5 * k + 1) []) 0, effL ((magicL.getD (5 * k + 1) []).drop 1)⟩]⟩) := by rw [Hid, HC0.out]; simp [zfb, za8, noCost]
 generalize magicL.getD (5 * k + 1) [] = row at *
 have HAT := Lib.hid hat
 have e0 : (0 : Int) ≤ 5 * (k : Int) + 1 := by omega
 have e1 : 5 * (k : Int) + 1 < 30 := by omega
 have e2 : (5 * (k : Int) + 1).toNat = 5 * k + 1 := by omega
 have e3 : ((k : Int) % 2 == 0) = (k % 2 == 0) := by rcases Nat.mod_two_eq_zero_or_one k with h | h <;> simp [h] <;> omega
 clear hat
 go_enter Tryz.func88, Tryz.ntmps88
 go_wp2_with (go_at_call 123; refine (zd2 _).mono ?_; rintro e' w' ⟨s, rfl, hs, nx, rfl⟩; obtain ⟨sl, hb0, hb1, hb2⟩ := hs.row _ _ HAT.out; have hsn : s.n = 30 := hs.len; have HB := Lib.hid (And.intro hb0 hb2); clear hb0 hb2 hs)
 have hnl := HB.out.2.len
 have hb := HB.out.1
 simp only [zaa] at hb
 have n0 : 0 < sl.n := by omega
 have n1 : (1 : Int) ≤ sl.n := by omega
 have hI : Ints (((w.alloc (.cells (CdV.arr ⟨0, 0, false, 0, 0, 0, 0, 0, 0, 0, 0, 0, .nil⟩) 99)).alloc (.cells (CdV.arr ⟨2, 1, k % 2 == 0, 0, 1, 0, 0, 0, (k : Int), 0, 0, 0, .nil⟩) 99)).plus nx) sl row := HB.out.2.off (b := w.heap.size + 1) (by repeat (first | exact Off.base _ _ _ _ (zaa _ _).symm | refine Off.plus ?_ _ | refine Off.alloc ?_ _)) (fun _ => by omega)
 have hc0 : (((w.alloc (.cells (CdV.arr ⟨0, 0, false, 0, 0, 0, 0, 0, 0, 0, 0, 0, .nil⟩) 99)).alloc (.cells (CdV.arr ⟨2, 1, k % 2 == 0, 0, 1, 0, 0, 0, (k : Int), 0, 0, 0, .nil⟩) 99)).plus nx).cell? ⟨sl.b, sl.o, none⟩ = some (.int .i64 (gt row 0)) := (hI.at 0 (by omega)).2
 have hbs : sl.b < w.heap.size + 1 + 1 + nx.objs.size := by have := (hI.at 0 (by omega)).1; simp only [zac, zaa] at this; exact this
 have HI := Lib.hid hI
 have HE := Lib.hid (fun W (g : Grow (((w.alloc (.cells (CdV.arr ⟨0, 0, false, 0, 0, 0, 0, 0, 0, 0, 0, 0, .nil⟩) 99)).alloc (.cells (CdV.arr ⟨2, 1, k % 2 == 0, 0, 1, 0, 0, 0, (k : Int), 0, 0, 0, .nil⟩) 99)).plus nx) W) => zc1 W (sl.aft 1) (row.drop 1) ((HI.out.grow g).aft 1 (by omega)) q (by simp; omega) (by omega))
 clear hI HB hnl hrow hb1 e0 e1 e2 q1 q1' q2 e9
 have hn1 : ¬ sl.b = w.heap.size := by omega
 have hn2 : ¬ sl.b = w.heap.size + 1 := by omega
 go_region_held3 (fun W => W.cell? ⟨sl.b, sl.o, none⟩ = some (.int .i64 (gt row 0))) (first | exact zfe (B := (.cells (CdV.arr ⟨2, 1, k % 2 == 0, 0, 1, 0, 0, 0, (k : Int), 0, 0, 0, .nil⟩) 99)) (zcj grI hc0) hn2 | exact zcj grI hc0) (first | (go_at_call 124; refine (HE.out _ grI).mono ?_; rintro e' w' ⟨x, rfl, hx, nx2, rfl⟩; (try simp only [zae] at hx); (try simp only [zad] at hx); have HX := Lib.hid hx; clear hx))
 all_goals
  go_wp2_with fail
  refine bodyPost_ret (zaj rfl _ _ _ rfl ?_) rfl ?_
  · go_simp
  rw [HC.out]
  refine ⟨_, (by go_simp; rfl), ⟨rfl, rfl, rfl, rfl, rfl, rfl, rfl, ?_⟩, grI⟩
  refine ⟨[_], RowsV.one (x := AbV.arr _) (by go_simp) (by go_simp; rfl) (by go_simp), .inr (by first | (go_simp; done) | (go_simp; omega) | (simp only [Sl.b]; go_simp; omega)), .cons ⟨rfl, rfl, rfl, rfl, ?_⟩ .nil⟩
  exact ((HX.out.turn (by simp only [zar, zac, zaa]; omega)).less (by simp only [zar, zac, zaa]; omega)).grow grI
set_option maxRecDepth 100000 in
set_option maxHeartbeats 8000000 in
theorem zrw (w : World) (k : Nat) (hk : k < 6) : Calls Tryz.prog 88 #[.int .i64 (5 * (k : Int) + 52)] w fun r w' => zcz w w' r (zaq (5 * k + 52)) := by
 have HC0 : Hid (zaq (5 * k + 52) = zfb 2 k) := by
  rw [Hid, zaq, if_neg (by omega), if_neg (by omega), if_neg (by omega), if_pos (by omega), show (5 * k + 52 - 50) % 5 = 2 by omega, show (5 * k + 52 - 50) / 5 = k by omega]
 have q1 : (5 * (k : Int) + 52 - 50) / 5 = k := by omega
 have q1' : (5 * (k : Int) + 2) / 5 = k := by omega
 have e9 : 5 * (k : Int) + 52 - 50 = 5 * (k : Int) + 2 := by omega
 have q2 : (5 * (k : Int) + 52) % 5 = 2 := by omega
 have hk6 : (k : Int) < 6 := by omega
 obtain ⟨q, hq, hrow⟩ := zet (5 * k + 2) (by omega)
 have hat := zg7 (5 * k + 2) (by omega)
 have HC : Hid (zaq (5 * k + 52) = ⟨2, 2, k % 2 == 0, [0, 0, 1, 0, 0, (k : Int)], 0, 0, 0, [⟨0, noCost, false, gt (magicL.getD (5 * k + 2) []) 0, effL ((magicL.getD (5 * k + 2) []).drop 1)⟩]⟩) := by rw [Hid, HC0.out]; simp [zfb, za8, noCost]
 generalize magicL.getD (5 * k + 2) [] = row at *
 have HAT := Lib.hid hat
 have e0 : (0 : Int) ≤ 5 * (k : Int) + 2 := by omega
 have e1 : 5 * (k : Int) + 2 < 30 := by omega
 have e2 : (5 * (k : Int) + 2).toNat = 5 * k + 2 := by omega
 have e3 : ((k : Int) % 2 == 0) = (k % 2 == 0) := by rcases Nat.mod_two_eq_zero_or_one k with h | h <;> simp [h] <;> omega
 clear hat
 go_enter Tryz.func88, Tryz.ntmps88
 go_wp2_with (go_at_call 123; refine (zd2 _).mono ?_; rintro e' w' ⟨s, rfl, hs, nx, rfl⟩; obtain ⟨sl, hb0, hb1, hb2⟩ := hs.row _ _ HAT.out; have hsn : s.n = 30 := hs.len; have HB := Lib.hid (And.intro hb0 hb2); clear hb0 hb2 hs)
 have hnl := HB.out.2.len
 have hb := HB.out.1
 simp only [zaa] at hb
 have n0 : 0 < sl.n := by omega
 have n1 : (1 : Int) ≤ sl.n := by omega
 have hI : Ints (((w.alloc (.cells (CdV.arr ⟨0, 0, false, 0, 0, 0, 0, 0, 0, 0, 0, 0, .nil⟩) 99)).alloc (.cells (CdV.arr ⟨2, 2, k % 2 == 0, 0, 0, 1, 0, 0, (k : Int), 0, 0, 0, .nil⟩) 99)).plus nx) sl row := HB.out.2.off (b := w.heap.size + 1) (by repeat (first | exact Off.base _ _ _ _ (zaa _ _).symm | refine Off.plus ?_ _ | refine Off.alloc ?_ _)) (fun _ => by omega)
 have hc0 : (((w.alloc (.cells (CdV.arr ⟨0, 0, false, 0, 0, 0, 0, 0, 0, 0, 0, 0, .nil⟩) 99)).alloc (.cells (CdV.arr ⟨2, 2, k % 2 == 0, 0, 0, 1, 0, 0, (k : Int), 0, 0, 0, .nil⟩) 99)).plus nx).cell? ⟨sl.b, sl.o, none⟩ = some (.int .i64 (gt row 0)) := (hI.at 0 (by omega)).2
 have hbs : sl.b < w.heap.size + 1 + 1 + nx.objs.size := by have := (hI.at 0 (by omega)).1; simp only [zac, zaa] at this; exact this
 have HI := Lib.hid hI
 have HE := Lib.hid (fun W (g : Grow (((w.alloc (.cells (CdV.arr ⟨0, 0, false, 0, 0, 0, 0, 0, 0, 0, 0, 0, .nil⟩) 99)).alloc (.cells (CdV.arr ⟨2, 2, k % 2 == 0, 0, 0, 1, 0, 0, (k : Int), 0, 0, 0, .nil⟩) 99)).plus nx) W) => zc1 W (sl.aft 1) (row.drop 1) ((HI.out.grow g).aft 1 (by omega)) q (by simp; omega) (by omega))
 clear hI HB hnl hrow hb1 e0 e1 e2 q1 q1' q2 e9
 have hn1 : ¬ sl.b = w.heap.size := by omega
 have hn2 : ¬ sl.b = w.heap.size + 1 := by omega
 go_region_held3 (fun W => W.cell? ⟨sl.b, sl.o, none⟩ = some (.int .i64 (gt row 0))) (first | exact zfe (B := (.cells (CdV.arr ⟨2, 2, k % 2 == 0, 0, 0, 1, 0, 0, (k : Int), 0, 0, 0, .nil⟩) 99)) (zcj grI hc0) hn2 | exact zcj grI hc0) (first | (go_at_call 124; refine (HE.out _ grI).mono ?_; rintro e' w' ⟨x, rfl, hx, nx2, rfl⟩; (try simp only [zae] at hx); (try simp only [zad] at hx); have HX := Lib.hid hx; clear hx))
 all_goals
  go_wp2_with fail
  refine bodyPost_ret (zaj rfl _ _ _ rfl ?_) rfl ?_
  · go_simp
  rw [HC.out]
  refine ⟨_, (by go_simp; rfl), ⟨rfl, rfl, rfl, rfl, rfl, rfl, rfl, ?_⟩, grI⟩
  refine ⟨[_], RowsV.one (x := AbV.arr _) (by go_simp) (by go_simp; rfl) (by go_simp), .inr (by first | (go_simp; done) | (go_simp; omega) | (simp only [Sl.b]; go_simp; omega)), .cons ⟨rfl, rfl, rfl, rfl, ?_⟩ .nil⟩
  exact ((HX.out.turn (by simp only [zar, zac, zaa]; omega)).less (by simp only [zar, zac, zaa]; omega)).grow grI
set_option maxRecDepth 100000 in
set_option maxHeartbeats 8000000 in
theorem zrx (w : World) (k : Nat) (hk : k < 6) : Calls Tryz.prog 88 #[.int .i64 (5 * (k : Int) + 53)] w fun r w' => zcz w w' r (zaq (5 * k + 53)) := by
 have HC0 : Hid (zaq (5 * k + 53) = zfb 3 k) := by
  rw [Hid, zaq, if_neg (by omega), if_neg (by omega), if_neg (by omega), if_pos (by omega), show (5 * k + 53 - 50) % 5 = 3 by omega, show (5 * k + 53 - 50) / 5 = k by omega]
 have q1 : (5 * (k : Int) + 53 - 50) / 5 = k := by omega
 have q1' : (5 * (k : Int) + 3) / 5 = k := by omega
 have e9 : 5 * (k : Int) + 53 - 50 = 5 * (k : Int) + 3 := by omega
 have q2 : (5 * (k : Int) + 53) % 5 = 3 := by omega
 have hk6 : (k : Int) < 6 := by omega
 obtain ⟨q, hq, hrow⟩ := zet (5 * k + 3) (by omega)
 have hat := zg7 (5 * k + 3) (by omega)
 have HC : Hid (zaq (5 * k + 53) = ⟨2, 3, k % 2 == 0, [0, 0, 0, 1, 0, (k : Int)], 0, 0, 0, [⟨0, noCost, false, gt (magicL.getD (5 * k + 3) []) 0, effL ((magicL.getD (5 * k + 3) []).drop 1)⟩]⟩) := by rw [Hid, HC0.out]; simp [zfb, za8, noCost]
 generalize magicL.getD (5 * k + 3) [] = row at *
 have HAT := Lib.hid hat
 have e0 : (0 : Int) ≤ 5 * (k : Int) + 3 := by omega
 have e1 : 5 * (k : Int) + 3 < 30 := by omega
 have e2 : (5 * (k : Int) + 3).toNat = 5 * k + 3 := by omega
 have e3 : ((k : Int) % 2 == 0) = (k % 2 == 0) := by rcases Nat.mod_two_eq_zero_or_one k with h | h <;> simp [h] <;> omega
 clear hat
 go_enter Tryz.func88, Tryz.ntmps88
 go_wp2_with (go_at_call 123; refine (zd2 _).mono ?_; rintro e' w' ⟨s, rfl, hs, nx, rfl⟩; obtain ⟨sl, hb0, hb1, hb2⟩ := hs.row _ _ HAT.out; have hsn : s.n = 30 := hs.len; have HB := Lib.hid (And.intro hb0 hb2); clear hb0 hb2 hs)
 have hnl := HB.out.2.len
 have hb := HB.out.1
 simp only [zaa] at hb
 have n0 : 0 < sl.n := by omega
 have n1 : (1 : Int) ≤ sl.n := by omega
 have hI : Ints (((w.alloc (.cells (CdV.arr ⟨0, 0, false, 0, 0, 0, 0, 0, 0, 0, 0, 0, .nil⟩) 99)).alloc (.cells (CdV.arr ⟨2, 3, k % 2 == 0, 0, 0, 0, 1, 0, (k : Int), 0, 0, 0, .nil⟩) 99)).plus nx) sl row := HB.out.2.off (b := w.heap.size + 1) (by repeat (first | exact Off.base _ _ _ _ (zaa _ _).symm | refine Off.plus ?_ _ | refine Off.alloc ?_ _)) (fun _ => by omega)
 have hc0 : (((w.alloc (.cells (CdV.arr ⟨0, 0, false, 0, 0, 0, 0, 0, 0, 0, 0, 0, .nil⟩) 99)).alloc (.cells (CdV.arr ⟨2, 3, k % 2 == 0, 0, 0, 0, 1, 0, (k : Int), 0, 0, 0, .nil⟩) 99)).plus nx).cell? ⟨sl.b, sl.o, none⟩ = some (.int .i64 (gt row 0)) := (hI.at 0 (by omega)).2
 have hbs : sl.b < w.heap.size + 1 + 1 + nx.objs.size := by have := (hI.at 0 (by omega)).1; simp only [zac, zaa] at this; exact this
 have HI := Lib.hid hI
 have HE := Lib.hid (fun W (g : Grow (((w.alloc (.cells (CdV.arr ⟨0, 0, false, 0, 0, 0, 0, 0, 0, 0, 0, 0, .nil⟩) 99)).alloc (.cells (CdV.arr ⟨2, 3, k % 2 == 0, 0, 0, 0, 1, 0, (k : Int), 0, 0, 0, .nil⟩) 99)).plus nx) W) => zc1 W (sl.aft 1) (row.drop 1) ((HI.out.grow g).aft 1 (by omega)) q (by simp; omega) (by omega))
 clear hI HB hnl hrow hb1 e0 e1 e2 q1 q1' q2 e9
 have hn1 : ¬ sl.b = w.heap.size := by omega
 have hn2 : ¬ sl.b = w.heap.size + 1 := by omega
 go_region_held3 (fun W => W.cell? ⟨sl.b, sl.o, none⟩ = some (.int .i64 (gt row 0))) (first | exact zfe (B := (.cells (CdV.arr ⟨2, 3, k % 2 == 0, 0, 0, 0, 1, 0, (k : Int), 0, 0, 0, .nil⟩) 99)) (zcj grI hc0) hn2 | exact zcj grI hc0) (first | (go_at_call 124; refine (HE.out _ grI).mono ?_; rintro e' w' ⟨x, rfl, hx, nx2, rfl⟩; (try simp only [zae] at hx); (try simp only [zad] at hx); have HX := Lib.hid hx; clear hx))
 all_goals
  go_wp2_with fail
  refine bodyPost_ret (zaj rfl _ _ _ rfl ?_) rfl ?_
  · go_simp
  rw [HC.out]
  refine ⟨_, (by go_simp; rfl), ⟨rfl, rfl, rfl, rfl, rfl, rfl, rfl, ?_⟩, grI⟩
  refine ⟨[_], RowsV.one (x := AbV.arr _) (by go_simp) (by go_simp; rfl) (by go_simp), .inr (by first | (go_simp; done) | (go_simp; omega) | (simp only [Sl.b]; go_simp; omega)), .cons ⟨rfl, rfl, rfl, rfl, ?_⟩ .nil⟩
  exact ((HX.out.turn (by simp only [zar, zac, zaa]; omega)).less (by simp only [zar, zac, zaa]; omega)).grow grI
set_option maxRecDepth 100000 in
set_option maxHeartbeats 8000000 in
theorem zry (w : World) (k : Nat) (hk : k < 6) : Calls Tryz.prog 88 #[.int .i64 (5 * (k : Int) + 54)] w fun r w' => zcz w w' r (zaq (5 * k + 54)) := by
 have HC0 : Hid (zaq (5 * k + 54) = zfb 4 k) := by
  rw [Hid, zaq, if_neg (by omega), if_neg (by omega), if_neg (by omega), if_pos (by omega), show (5 * k + 54 - 50) % 5 = 4 by omega, show (5 * k + 54 - 50) / 5 = k by omega]
 have q1 : (5 * (k : Int) + 54 - 50) / 5 = k := by omega
 have q1' : (5 * (k : Int) + 4) / 5 = k := by omega
 have e9 : 5 * (k : Int) + 54 - 50 = 5 * (k : Int) + 4 := by omega
 have q2 : (5 * (k : Int) + 54) % 5 = 4 := by omega
 have hk6 : (k : Int) < 6 := by omega
 obtain ⟨q, hq, hrow⟩ := zet (5 * k + 4) (by omega)
 have hat := zg7 (5 * k + 4) (by omega)
 have HC : Hid (zaq (5 * k + 54) = ⟨2, 4, k % 2 == 0, [0, 0, 0, 0, 1, (k : Int)], 0, 0, 0, [⟨0, noCost, false, gt (magicL.getD (5 * k + 4) []) 0, effL ((magicL.getD (5 * k + 4) []).drop 1)⟩]⟩) := by rw [Hid, HC0.out]; simp [zfb, za8, noCost]
 generalize magicL.getD (5 * k + 4) [] = row at *
 have HAT := Lib.hid hat
 have e0 : (0 : Int) ≤ 5 * (k : Int) + 4 := by omega
 have e1 : 5 * (k : Int) + 4 < 30 := by omega
 have e2 : (5 * (k : Int) + 4).toNat = 5 * k + 4 := by omega
 have e3 : ((k : Int) % 2 == 0) = (k % 2 == 0) := by rcases Nat.mod_two_eq_zero_or_one k with h | h <;> simp [h] <;> omega
 clear hat
 go_enter Tryz.func88, Tryz.ntmps88
 go_wp2_with (go_at_call 123; refine (zd2 _).mono ?_; rintro e' w' ⟨s, rfl, hs, nx, rfl⟩; obtain ⟨sl, hb0, hb1, hb2⟩ := hs.row _ _ HAT.out; have hsn : s.n = 30 := hs.len; have HB := Lib.hid (And.intro hb0 hb2); clear hb0 hb2 hs)
 have hnl := HB.out.2.len
 have hb := HB.out.1
 simp only [zaa] at hb
 have n0 : 0 < sl.n := by omega
 have n1 : (1 : Int) ≤ sl.n := by omega
 have hI : Ints (((w.alloc (.cells (CdV.arr ⟨0, 0, false, 0, 0, 0, 0, 0, 0, 0, 0, 0, .nil⟩) 99)).alloc (.cells (CdV.arr ⟨2, 4, k % 2 == 0, 0, 0, 0, 0, 1, (k : Int), 0, 0, 0, .nil⟩) 99)).plus nx) sl row := HB.out.2.off (b := w.heap.size + 1) (by repeat (first | exact Off.base _ _ _ _ (zaa _ _).symm | refine Off.plus ?_ _ | refine Off.alloc ?_ _)) (fun _ => by omega)
 have hc0 : (((w.alloc (.cells (CdV.arr ⟨0, 0, false, 0, 0, 0, 0, 0, 0, 0, 0, 0, .nil⟩) 99)).alloc (.cells (CdV.arr ⟨2, 4, k % 2 == 0, 0, 0, 0, 0, 1, (k : Int), 0, 0, 0, .nil⟩) 99)).plus nx).cell? ⟨sl.b, sl.o, none⟩ = some (.int .i64 (gt row 0)) := (hI.at 0 (by omega)).2
 have hbs : sl.b < w.heap.size + 1 + 1 + nx.objs.size := by have := (hI.at 0 (by omega)).1; simp only [zac, zaa] at this; exact this
 have HI := Lib.hid hI
 have HE := Lib.hid (fun W (g : Grow (((w.alloc (.cells (CdV.arr ⟨0, 0, false, 0, 0, 0, 0, 0, 0, 0, 0, 0, .nil⟩) 99)).alloc (.cells (CdV.arr ⟨2, 4, k % 2 == 0, 0, 0, 0, 0, 1, (k : Int), 0, 0, 0, .nil⟩) 99)).plus nx) W) => zc1 W (sl.aft 1) (row.drop 1) ((HI.out.grow g).aft 1 (by omega)) q (by simp; omega) (by omega))
 clear hI HB hnl hrow hb1 e0 e1 e2 q1 q1' q2 e9
 have hn1 : ¬ sl.b = w.heap.size := by omega
 have hn2 : ¬ sl.b = w.heap.size + 1 := by omega
 go_region_held3 (fun W => W.cell? ⟨sl.b, sl.o, none⟩ = some (.int .i64 (gt row 0))) (first | exact zfe (B := (.cells (CdV.arr ⟨2, 4, k % 2 == 0, 0, 0, 0, 0, 1, (k : Int), 0, 0, 0, .nil⟩) 99)) (zcj grI hc0) hn2 | exact zcj grI hc0) (first | (go_at_call 124; refine (HE.out _ grI).mono ?_; rintro e' w' ⟨x, rfl, hx, nx2, rfl⟩; (try simp only [zae] at hx); (try simp only [zad] at hx); have HX := Lib.hid hx; clear hx))
 all_goals
  go_wp2_with fail
  refine bodyPost_ret (zaj rfl _ _ _ rfl ?_) rfl ?_
  · go_simp
  rw [HC.out]
  refine ⟨_, (by go_simp; rfl), ⟨rfl, rfl, rfl, rfl, rfl, rfl, rfl, ?_⟩, grI⟩
  refine ⟨[_], RowsV.one (x := AbV.arr _) (by go_simp) (by go_simp; rfl) (by go_simp), .inr (by first | (go_simp; done) | (go_simp; omega) | (simp only [Sl.b]; go_simp; omega)), .cons ⟨rfl, rfl, rfl, rfl, ?_⟩ .nil⟩
  exact ((HX.out.turn (by simp only [zar, zac, zaa]; omega)).less (by simp only [zar, zac, zaa]; omega)).grow grI
set_option maxRecDepth 100000 in
set_option maxHeartbeats 8000000 in
theorem zro (w : World) (k : Nat) (hk : k < 4) : Calls Tryz.prog 88 #[.int .i64 (5 * (k : Int) + 80)] w fun r w' => zcz w w' r (zaq (5 * k + 80)) := by
 have HC0 : Hid (zaq (5 * k + 80) = zfa 0 k) := by
  rw [Hid, zaq, if_neg (by omega), if_neg (by omega), if_neg (by omega), if_neg (by omega), if_pos (by omega), show (5 * k + 80 - 80) % 5 = 0 by omega, show (5 * k + 80 - 80) / 5 = k by omega]
 have q1 : (5 * (k : Int) + 80 - 80) / 5 = k := by omega
 have q1' : (5 * (k : Int)) / 5 = k := by omega
 have e9 : 5 * (k : Int) + 80 - 80 = 5 * (k : Int) := by omega
 have q2 : (5 * (k : Int) + 80) % 5 = 0 := by omega
 have hk6 : (k : Int) < 4 := by omega
 obtain ⟨q, hq, hrow, hab⟩ := zew (5 * k) (by omega)
 have hat := zhh (5 * k) (by omega)
 have HC : Hid (zaq (5 * k + 80) = ⟨3, 0, false, [1, 0, 0, 0, 0, (k : Int) + 1], 0, 0, 0, [abL (relicL.getD (5 * k) [])]⟩) := by rw [Hid, HC0.out]; simp [zfa, za8, noCost]
 generalize relicL.getD (5 * k) [] = row at *
 have HAT := Lib.hid hat
 have HRow := Lib.hid (And.intro hq (And.intro hrow hab))
 have e0 : (0 : Int) ≤ 5 * (k : Int) := by omega
 have e1 : 5 * (k : Int) < 20 := by omega
 have e2 : (5 * (k : Int)).toNat = 5 * k := by omega
 clear hat hrow hab hq
 go_enter Tryz.func88, Tryz.ntmps88
 go_wp2_with (first | (go_at_call 126; refine (zd7 _).mono ?_; rintro e' w' ⟨s, rfl, hs, nx, rfl⟩; obtain ⟨sl, hb0, hb1, hb2⟩ := hs.row _ _ HAT.out; have hsn : s.n = 20 := hs.len; have HB := Lib.hid (And.intro hb0 hb2); clear hb0 hb2 hs) | (go_at_call 125; refine (zcb _ sl row (HB.out.2.grow grI) q HRow.out.2.1 (by have := HRow.out.1; omega) HRow.out.2.2).mono ?_; rintro e' w' ⟨a, rfl, ha, nx2, rfl⟩; (try simp only [zae] at ha); (try simp only [zad] at ha); have HA := Lib.hid ha; clear ha))
 refine bodyPost_ret (zaj rfl _ _ _ rfl ?_) rfl ?_
 · go_simp
 rw [HC.out]
 refine ⟨_, (by go_simp; rfl), ⟨rfl, rfl, rfl, rfl, rfl, rfl, rfl, ?_⟩, grI⟩
 refine ⟨[_], RowsV.one (x := AbV.arr _) (by go_simp) (by go_simp; rfl) (by go_simp), .inr (by first | (go_simp; done) | (go_simp; omega) | (simp only [Sl.b]; go_simp; omega)), .cons ?_ .nil⟩
 exact ((HA.out.turn (by simp only [zac, zaa]; omega)).less (by simp only [zac, zaa]; omega)).grow grI
set_option maxRecDepth 100000 in
set_option maxHeartbeats 8000000 in
theorem zrp (w : World) (k : Nat) (hk : k < 4) : Calls Tryz.prog 88 #[.int .i64 (5 * (k : Int) + 81)] w fun r w' => zcz w w' r (zaq (5 * k + 81)) := by
 have HC0 : Hid (zaq (5 * k + 81) = zfa 1 k) := by
  rw [Hid, zaq, if_neg (by omega), if_neg (by omega), if_neg (by omega), if_neg (by omega), if_pos (by omega), show (5 * k + 81 - 80) % 5 = 1 by omega, show (5 * k + 81 - 80) / 5 = k by omega]
 have q1 : (5 * (k : Int) + 81 - 80) / 5 = k := by omega
 have q1' : (5 * (k : Int) + 1) / 5 = k := by omega
 have e9 : 5 * (k : Int) + 81 - 80 = 5 * (k : Int) + 1 := by omega
 have q2 : (5 * (k : Int) + 81) % 5 = 1 := by omega
 have hk6 : (k : Int) < 4 := by omega
 obtain ⟨q, hq, hrow, hab⟩ := zew (5 * k + 1) (by omega)
 have hat := zhh (5 * k + 1) (by omega)
 have HC : Hid (zaq (5 * k + 81) = ⟨3, 1, false, [0, 1, 0, 0, 0, (k : Int) + 1], 0, 0, 0, [abL (relicL.getD (5 * k + 1) [])]⟩) := by rw [Hid, HC0.out]; simp [zfa, za8, noCost]
 generalize relicL.getD (5 * k + 1) [] = row at *
 have HAT := Lib.hid hat
 have HRow := Lib.hid (And.intro hq (And.intro hrow hab))
 have e0 : (0 : Int) ≤ 5 * (k : Int) + 1 := by omega
 have e1 : 5 * (k : Int) + 1 < 20 := by omega
 have e2 : (5 * (k : Int) + 1).toNat = 5 * k + 1 := by omega
 clear hat hrow hab hq
 go_enter Tryz.func88, Tryz.ntmps88
 go_wp2_with (first | (go_at_call 126; refine (zd7 _).mono ?_; rintro e' w' ⟨s, rfl, hs, nx, rfl⟩; obtain ⟨sl, hb0, hb1, hb2⟩ := hs.row _ _ HAT.out; have hsn : s.n = 20 := hs.len; have HB := Lib.hid (And.intro hb0 hb2); clear hb0 hb2 hs) | (go_at_call 125; refine (zcb _ sl row (HB.out.2.grow grI) q HRow.out.2.1 (by have := HRow.out.1; omega) HRow.out.2.2).mono ?_; rintro e' w' ⟨a, rfl, ha, nx2, rfl⟩; (try simp only [zae] at ha); (try simp only [zad] at ha); have HA := Lib.hid ha; clear ha))
 refine bodyPost_ret (zaj rfl _ _ _ rfl ?_) rfl ?_
 · go_simp
 rw [HC.out]
 refine ⟨_, (by go_simp; rfl), ⟨rfl, rfl, rfl, rfl, rfl, rfl, rfl, ?_⟩, grI⟩
 refine ⟨[_], RowsV.one (x := AbV.arr _) (by go_simp) (by go_simp; rfl) (by go_simp), .inr (by first | (go_simp; done) | (go_simp; omega) | (simp only [Sl.b]; go_simp; omega)), .cons ?_ .nil⟩
 exact ((HA.out.turn (by simp only [zac, zaa]; omega)).less (by simp only [zac, zaa]; omega)).grow grI
set_option maxRecDepth 100000 in
set_option maxHeartbeats 8000000 in
theorem zrq (w : World) (k : Nat) (hk : k < 4) : Calls Tryz.prog 88 #[.int .i64 (5 * (k : Int) + 82)] w fun r w' => zcz w w' r (zaq (5 * k + 82)) := by
 have HC0 : Hid (zaq (5 * k + 82) = zfa 2 k) := by
  rw [Hid, zaq, if_neg (by omega), if_neg (by omega), if_neg (by omega), if_neg (by omega), if_pos (by omega), show (5 * k + 82 - 80) % 5 = 2 by omega, show (5 * k + 82 - 80) / 5 = k by omega]
 have q1 : (5 * (k : Int) + 82 - 80) / 5 = k := by omega
 have q1' : (5 * (k : Int) + 2) / 5 = k := by omega
 have e9 : 5 * (k : Int) + 82 - 80 = 5 * (k : Int) + 2 := by omega
 have q2 : (5 * (k : Int) + 82) % 5 = 2 := by omega
 have hk6 : (k : Int) < 4 := by omega
 obtain ⟨q, hq, hrow, hab⟩ := zew (5 * k + 2) (by omega)
 have hat := zhh (5 * k + 2) (by omega)
 have HC : Hid (zaq (5 * k + 82) = ⟨3, 2, false, [0, 0, 1, 0, 0, (k : Int) + 1], 0, 0, 0, [abL (relicL.getD (5 * k + 2) [])]⟩) := by rw [Hid, HC0.out]; simp [zfa, za8, noCost]
 generalize relicL.getD (5 * k + 2) [] = row at *
 have HAT := Lib.hid hat
 have HRow := Lib.hid (And.intro hq (And.intro hrow hab))
 have e0 : (0 : Int) ≤ 5 * (k : Int) + 2 := by omega
 have e1 : 5 * (k : Int) + 2 < 20 := by omega
 have e2 : (5 * (k : Int) + 2).toNat = 5 * k + 2 := by omega
 clear hat hrow hab hq
 go_enter Tryz.func88, Tryz.ntmps88
 go_wp2_with (first | (go_at_call 126; refine (zd7 _).mono ?_; rintro e' w' ⟨s, rfl, hs, nx, rfl⟩; obtain ⟨sl, hb0, hb1, hb2⟩ := hs.row _ _ HAT.out; have hsn : s.n = 20 := hs.len; have HB := Lib.hid (And.intro hb0 hb2); clear hb0 hb2 hs) | (go_at_call 125; refine (zcb _ sl row (HB.out.2.grow grI) q HRow.out.2.1 (by have := HRow.out.1; omega) HRow.out.2.2).mono ?_; rintro e' w' ⟨a, rfl, ha, nx2, rfl⟩; (try simp only [zae] at ha); (try simp only [zad] at ha); have HA := Lib.hid ha; clear ha))
 refine bodyPost_ret (zaj rfl _ _ _ rfl ?_) rfl ?_
 · go_simp
 rw [HC.out]
 refine ⟨_, (by go_simp; rfl), ⟨rfl, rfl, rfl, rfl, rfl, rfl, rfl, ?_⟩, grI⟩
 refine ⟨[_], RowsV.one (x := AbV.arr _) (by go_simp) (by go_simp; rfl) (by go_simp), .inr (by first | (go_simp; done) | (go_simp; omega) | (simp only [Sl.b]; go_simp; omega)), .cons ?_ .nil⟩
 exact ((HA.out.turn (by simp only [zac, zaa]; omega)).less (by simp only [zac, zaa]; omega)).grow grI
set_option maxRecDepth 100000 in
set_option maxHeartbeats 8000000 in
theorem zrr (w : World) (k : Nat) (hk : k < 4) : Calls Tryz.prog 88 #[.int .i64 (5 * (k : Int) + 83)] w fun r w' => zcz w w' r (zaq (5 * k + 83)) := by
 have HC0 : Hid (zaq (5 * k + 83) = zfa 3 k) := by
  rw [Hid, zaq, if_neg (by omega), if_neg (by omega), if_neg (by omega), if_neg (by omega), if_pos (by omega), show (5 * k + 83 - 80) % 5 = 3 by omega, show (5 * k + 83 - 80) / 5 = k by omega]
 have q1 : (5 * (k : Int) + 83 - 80) / 5 = k := by omega
 have q1' : (5 * (k : Int) + 3) / 5 = k := by omega
 have e9 : 5 * (k : Int) + 83 - 80 = 5 * (k : Int) + 3 := by omega
 have q2 : (5 * (k : Int) + 83) % 5 = 3 := by omega
 have hk6 : (k : Int) < 4 := by omega
 obtain ⟨q, hq, hrow, hab⟩ := zew (5 * k + 3) (by omega)
 have hat := zhh (5 * k + 3) (by omega)
 have HC : Hid (zaq (5 * k + 83) = ⟨3, 3, false, [0, 0, 0, 1, 0, (k : Int) + 1], 0, 0, 0, [abL (relicL.getD (5 * k + 3) [])]⟩) := by rw [Hid, HC0.out]; simp [zfa, za8, noCost]
 generalize relicL.getD (5 * k + 3) [] = row at *
 have HAT := Lib.hid hat
 have HRow := Lib.hid (And.intro hq (And.intro hrow hab))
 have e0 : (0 : Int) ≤ 5 * (k : Int) + 3 := by omega
 have e1 : 5 * (k : Int) + 3 < 20 := by omega
 have e2 : (5 * (k : Int) + 3).toNat = 5 * k + 3 := by omega
 clear hat hrow hab hq
 go_enter Tryz.func88, Tryz.ntmps88
 go_wp2_with (first | (go_at_call 126; refine (zd7 _).mono ?_; rintro e' w' ⟨s, rfl, hs, nx, rfl⟩; obtain ⟨sl, hb0, hb1, hb2⟩ := hs.row _ _ HAT.out; have hsn : s.n = 20 := hs.len; have HB := Lib.hid (And.intro hb0 hb2); clear hb0 hb2 hs) | (go_at_call 125; refine (zcb _ sl row (HB.out.2.grow grI) q HRow.out.2.1 (by have := HRow.out.1; omega) HRow.out.2.2).mono ?_; rintro e' w' ⟨a, rfl, ha, nx2, rfl⟩; (try simp only [zae] at ha); (try simp only [zad] at ha); have HA := Lib.hid ha; clear ha))
 refine bodyPost_ret (zaj rfl _ _ _ rfl ?_) rfl ?_
 · go_simp
 rw [HC.out]
 refine ⟨_, (by go_simp; rfl), ⟨rfl, rfl, rfl, rfl, rfl, rfl, rfl, ?_⟩, grI⟩
 refine ⟨[_], RowsV.one (x := AbV.arr _) (by go_simp) (by go_simp; rfl) (by go_simp), .inr (by first | (go_simp; done) | (go_simp; omega) | (simp only [Sl.b]; go_simp; omega)), .cons ?_ .nil⟩
 exact ((HA.out.turn (by simp only [zac, zaa]; omega)).less (by simp only [zac, zaa]; omega)).grow grI
set_option maxRecDepth 100000 in
set_option maxHeartbeats 8000000 in
theorem zrs (w : World) (k : Nat) (hk : k < 4) : Calls Tryz.prog 88 #[.int .i64 (5 * (k : Int) + 84)] w fun r w' => zcz w w' r (zaq (5 * k + 84)) := by
 have HC0 : Hid (zaq (5 * k + 84) = zfa 4 k) := by
  rw [Hid, zaq, if_neg (by omega), if_neg (by omega), if_neg (by omega), if_neg (by omega), if_pos (by omega), show (5 * k + 84 - 80) % 5 = 4 by omega, show (5 * k + 84 - 80) / 5 = k by omega]
 have q1 : (5 * (k : Int) + 84 - 80) / 5 = k := by omega
 have q1' : (5 * (k : Int) + 4) / 5 = k := by omega
 have e9 : 5 * (k : Int) + 84 - 80 = 5 * (k : Int) + 4 := by omega
 have q2 : (5 * (k : Int) + 84) % 5 = 4 := by omega
 have hk6 : (k : Int) < 4 := by omega
 obtain ⟨q, hq, hrow, hab⟩ := zew (5 * k + 4) (by omega)
 have hat := zhh (5 * k + 4) (by omega)
 have HC : Hid (zaq (5 * k + 84) = ⟨3, 4, false, [0, 0, 0, 0, 1, (k : Int) + 1], 0, 0, 0, [abL (relicL.getD (5 * k + 4) [])]⟩) := by rw [Hid, HC0.out]; simp [zfa, za8, noCost]
 generalize relicL.getD (5 * k + 4) [] = row at *
 have HAT := Lib.hid hat
 have HRow := Lib.hid (And.intro hq (And.intro hrow hab))
 have e0 : (0 : Int) ≤ 5 * (k : Int) + 4 := by omega
 have e1 : 5 * (k : Int) + 4 < 20 := by omega
 have e2 : (5 * (k : Int) + 4).toNat = 5 * k + 4 := by omega
 clear hat hrow hab hq
 go_enter Tryz.func88, Tryz.ntmps88
 go_wp2_with (first | (go_at_call 126; refine (zd7 _).mono ?_; rintro e' w' ⟨s, rfl, hs, nx, rfl⟩; obtain ⟨sl, hb0, hb1, hb2⟩ := hs.row _ _ HAT.out; have hsn : s.n = 20 := hs.len; have HB := Lib.hid (And.intro hb0 hb2); clear hb0 hb2 hs) | (go_at_call 125; refine (zcb _ sl row (HB.out.2.grow grI) q HRow.out.2.1 (by have := HRow.out.1; omega) HRow.out.2.2).mono ?_; rintro e' w' ⟨a, rfl, ha, nx2, rfl⟩; (try simp only [zae] at ha); (try simp only [zad] at ha); have HA := Lib.hid ha; clear ha))
 refine bodyPost_ret (zaj rfl _ _ _ rfl ?_) rfl ?_
 · go_simp
 rw [HC.out]
 refine ⟨_, (by go_simp; rfl), ⟨rfl, rfl, rfl, rfl, rfl, rfl, rfl, ?_⟩, grI⟩
 refine ⟨[_], RowsV.one (x := AbV.arr _) (by go_simp) (by go_simp; rfl) (by go_simp), .inr (by first | (go_simp; done) | (go_simp; omega) | (simp only [Sl.b]; go_simp; omega)), .cons ?_ .nil⟩
 exact ((HA.out.turn (by simp only [zac, zaa]; omega)).less (by simp only [zac, zaa]; omega)).grow grI
end Go.Proofs.YthfalocligkamaaGreatDoor
namespace Go.Proofs.YthfalocligkamaaGreatDoor
open Go Go.RowKit
theorem zn8 : ∀ i, i < 12 → ∃ q, q ≤ 3 ∧ (specialL.getD i []).length = 4 * (q + 2) + 6 ∧ (gt ((specialL.getD i []).drop 6) 1 = -1 ∨ gt ((specialL.getD i []).drop 6) 1 = 1 ∨ gt ((specialL.getD i []).drop 6) 1 = 5) := by
 intro i hi
 have h1 : ∀ i, i < 12 → (specialL.getD i []).length = 14 ∨ (specialL.getD i []).length = 18 := by decide
 have h2 : ∀ i, i < 12 → (gt ((specialL.getD i []).drop 6) 1 = -1 ∨ gt ((specialL.getD i []).drop 6) 1 = 1 ∨ gt ((specialL.getD i []).drop 6) 1 = 5) := by decide
 rcases h1 i hi with h | h
 · exact ⟨0, by omega, h, h2 i hi⟩
 · exact ⟨1, by omega, h, h2 i hi⟩
theorem zt4 (i : Nat) (hi : i < 12) : specialL[i]? = some (specialL.getD i []) := by
 rw [List.getD_eq_getElem?_getD]
 have : i < specialL.length := hi
 rw [List.getElem?_eq_getElem this]; rfl
theorem zdz {w : World} {A B B' : Obj} {x : Ext} {b o : Nat} {v : Value} (h : (((w.alloc A).alloc B).plus x).cell? ⟨b, o, none⟩ = some v) (hb : ¬ b = w.heap.size + 1) : (((w.alloc A).alloc B').plus x).cell? ⟨b, o, none⟩ = some v := by
 have ho : Off (w.heap.size + 1) (((w.alloc A).alloc B).plus x) (((w.alloc A).alloc B').plus x) := (by repeat (first | exact Off.base _ _ _ _ (zaa _ _).symm | refine Off.plus ?_ _ | refine Off.alloc ?_ _))
 rw [World.cell?_of_block (ho.block b hb), h]
set_option maxRecDepth 100000 in
set_option maxHeartbeats 8000000 in
theorem zop (w : World) (i : Nat) (hi : i < 12) : Calls Tryz.prog 88 #[.int .i64 ((i : Int) + 100)] w fun r w' => zcz w w' r (zaq (i + 100)) := by
 have HC0 : Hid (zaq (i + 100) = zdw i) := by
  rw [Hid, zaq, if_neg (by omega), if_neg (by omega), if_neg (by omega), if_neg (by omega), if_neg (by omega), if_pos (by omega), show i + 100 - 100 = i by omega]
 have hi12 : (i : Int) < 12 := by omega
 obtain ⟨q, hq, hrow, hab⟩ := zn8 i hi
 have hat := zt4 i hi
 have HC : Hid (zaq (i + 100) = ⟨gt (specialL.getD i []) 0, 5, gt (specialL.getD i []) 2 == 1, [0, 0, 0, 0, 0, gt (specialL.getD i []) 1], gt (specialL.getD i []) 3, gt (specialL.getD i []) 4, gt (specialL.getD i []) 5, abL ((specialL.getD i []).drop 6) :: (if i = 8 then [zlp 2 5] else [])⟩) := by rw [Hid, HC0.out]; simp [zdw, noCost]
 generalize specialL.getD i [] = row at *
 have HAT := Lib.hid hat
 have HRow := Lib.hid (And.intro hq (And.intro hrow hab))
 clear hat hrow hab hq
 go_enter Tryz.func88, Tryz.ntmps88
 go_wp2_with (go_at_call 127; refine (zmk _).mono ?_; rintro e' w' ⟨s, rfl, hs, nx, rfl⟩; obtain ⟨sl, hb0, hb1, hb2⟩ := hs.row _ _ HAT.out; have hsn : s.n = 12 := hs.len; have HB := Lib.hid (And.intro hb0 hb2); clear hb0 hb2 hs)
 have hnl := HB.out.2.len
 have hb := HB.out.1
 simp only [zaa] at hb
 have hln := HRow.out.2.1
 have n0 : 0 < sl.n := by omega
 have n1 : (1 : Int) < sl.n := by omega
 have n2 : (2 : Int) < sl.n := by omega
 have n3 : (3 : Int) < sl.n := by omega
 have n4 : (4 : Int) < sl.n := by omega
 have n5 : (5 : Int) < sl.n := by omega
 have n6 : (6 : Int) ≤ sl.n := by omega
 have hbs := (HB.out.2.at 0 (by omega)).1
 simp only [zac, zaa] at hbs
 have hI := HB.out.2
 have c0 := (hI.at 0 (by omega)).2
 have c1 := (hI.at 1 (by omega)).2
 have c2 := (hI.at 2 (by omega)).2
 have c3 := (hI.at 3 (by omega)).2
 have c4 := (hI.at 4 (by omega)).2
 have c5 := (hI.at 5 (by omega)).2
 rw [Nat.add_zero] at c0
 change _ = some (Value.int .i64 (gt row 0)) at c0
 change _ = some (Value.int .i64 (gt row 1)) at c1
 change _ = some (Value.int .i64 (gt row 2)) at c2
 change _ = some (Value.int .i64 (gt row 3)) at c3
 change _ = some (Value.int .i64 (gt row 4)) at c4
 change _ = some (Value.int .i64 (gt row 5)) at c5
 clear hI hnl hln hb1
 have hn1 : ¬ sl.b = w.heap.size := by omega
 have hn2 : ¬ sl.b = w.heap.size + 1 := by omega
 go_region_held3 (fun W => W.cell? ⟨sl.b, sl.o, none⟩ = some (.int .i64 (gt row 0)) ∧ W.cell? ⟨sl.b, sl.o + 2, none⟩ = some (.int .i64 (gt row 2)) ∧ W.cell? ⟨sl.b, sl.o + 3, none⟩ = some (.int .i64 (gt row 3)) ∧ W.cell? ⟨sl.b, sl.o + 4, none⟩ = some (.int .i64 (gt row 4)) ∧ W.cell? ⟨sl.b, sl.o + 5, none⟩ = some (.int .i64 (gt row 5))) (first | exact ⟨c0, c2, c3, c4, c5⟩ | exact ⟨zdz c0 hn2, zdz c2 hn2, zdz c3 hn2, zdz c4 hn2, zdz c5 hn2⟩) (fail)
 generalize hg0 : gt row 0 = g0 at *
 generalize hg2 : (gt row 2 == 1) = g2 at *
 generalize hg3 : gt row 3 = g3 at *
 generalize hg4 : gt row 4 = g4 at *
 generalize hg5 : gt row 5 = g5 at *
 generalize hg1 : gt row 1 = g1 at *
 have d1 : (((w.alloc (.cells (CdV.arr ⟨0, 0, false, 0, 0, 0, 0, 0, 0, 0, 0, 0, .nil⟩) 99)).alloc (.cells (CdV.arr ⟨g0, 5, g2, 0, 0, 0, 0, 0, 0, g3, g4, g5, .nil⟩) 99)).plus nx).cell? ⟨sl.b, sl.o + 1, none⟩ = some (.int .i64 g1) := zdz c1 hn2
 have hI2 : Ints (((w.alloc (.cells (CdV.arr ⟨0, 0, false, 0, 0, 0, 0, 0, 0, 0, 0, 0, .nil⟩) 99)).alloc (.cells (CdV.arr ⟨g0, 5, g2, 0, 0, 0, 0, 0, g1, g3, g4, g5, .nil⟩) 99)).plus nx) sl row := HB.out.2.off (b := w.heap.size + 1) (by repeat (first | exact Off.base _ _ _ _ (zaa _ _).symm | refine Off.plus ?_ _ | refine Off.alloc ?_ _)) (fun _ => hn2)
 have HI := Lib.hid hI2
 have HBB := Lib.hid hb
 clear hI2 HB hb hbs c0 c1 c2 c3 c4 c5
 by_cases h8 : i = 8
 · subst h8
   rw [if_pos rfl] at HC
   go_wp2_with (go_at_call 125; refine (zcb _ (sl.aft 6) (row.drop 6) ((HI.out.grow grI).aft 6 (by have := HRow.out.2.1; omega)) q (by have := HRow.out.2.1; simp; omega) (by have := HRow.out.1; omega) HRow.out.2.2).mono ?_; rintro e' w' ⟨a, rfl, ha, nx2, rfl⟩; (try simp only [zae] at ha); (try simp only [zad] at ha); have HA := Lib.hid ha; clear ha)
   go_region_law (first | (refine zak (by rfl) ?_; go_simp; go_at_call 122; refine (zhv _ _ _).mono ?_; rintro e' w' ⟨g, rfl, hg, nz, rfl⟩; have HG := Lib.hid hg; clear hg) | (refine zob (by rfl) _ _ 97 rfl 152 Tryz.t152 (.agg (AbV.arr ⟨0, 0, 0, 0, 0, 0, 0, false, 0, ⟨0, 0, 0, 0, .nil⟩⟩)) 14 128 Tryz.underlying97 (by kernel_rfl) (by kernel_rfl) (by kernel_rfl) (by kernel_rfl) (by omega) rfl (.mk (w.heap.size + 1 + 1 + (nx.and nx2.late).objs.size) 0 1 1) (.mk _ 0 1 1) (zda [AbV.arr a]) (zda [AbV.arr g]) rfl rfl (RowsV.one (x := AbV.arr a) (by go_simp) (by go_simp) (by go_simp)).cells (by show 1 < 1 + 1; omega) (RowsV.one (x := AbV.arr g) (by go_simp) (by go_simp) (by go_simp)).cells (zdb (by simp [AbV.one])) (by show 1 + 1 ≤ 4194304; omega) ?_; intro s3 y3 c1 c2 c3; have C := Lib.hid (And.intro c1 (And.intro c2 c3)); clear c1 c2 c3))
   all_goals
    go_wp2_with fail
    refine bodyPost_ret (zaj rfl _ _ _ rfl ?_) rfl ?_
    · go_simp
    rw [HC.out]
    refine ⟨⟨g0, 5, g2, 0, 0, 0, 0, 0, g1, g3, g4, g5, s3⟩, (by go_simp), ⟨rfl, rfl, rfl, rfl, rfl, rfl, rfl, ?_⟩, grI⟩
    have hb3 := C.out.2.2
    simp only [zac, zaa] at hb3
    have hr := Cells.rowsV (l := [a.arr, g.arr]) C.out.1 (by omega) (by simp [AbV.size])
    have hr2 := hr.off (b := w.heap.size + 1) (w' := ((((((w.alloc (.cells (CdV.arr ⟨0, 0, false, 0, 0, 0, 0, 0, 0, 0, 0, 0, .nil⟩) 99)).alloc (.cells (CdV.arr ⟨g0, 5, g2, 0, 0, 0, 0, 0, g1, g3, g4, g5, s3⟩) 99)).plus (nx.and nx2.late)).alloc (.cells a.arr 152)).plus nz.late).alloc (.cells g.arr 152)).plus y3) (by repeat (first | exact Off.base _ _ _ _ (zaa _ _).symm | refine Off.plus ?_ _ | refine Off.alloc ?_ _)) (by omega)
    refine ⟨[a, g], hr2.off (b := w.heap.size) (by repeat (first | exact Off.base _ _ _ _ rfl | refine Off.plus ?_ _ | refine Off.alloc ?_ _)) (by omega), .inr (by show w.heap.size ≤ s3.b; omega), .cons ?_ (.cons ?_ .nil)⟩
    · exact ((HA.out.turn (by simp only [zac, zaa, zar]; omega)).less (by simp only [zac, zaa, zar]; omega)).grow grI
    · exact (HG.out.free rfl _).less (by simp only [zac, zaa, zar]; omega)
 · have h8' : ¬ (i : Int) + 100 = 108 := by omega
   rw [if_neg h8] at HC
   go_wp2_with (go_at_call 125; refine (zcb _ (sl.aft 6) (row.drop 6) ((HI.out.grow grI).aft 6 (by have := HRow.out.2.1; omega)) q (by have := HRow.out.2.1; simp; omega) (by have := HRow.out.1; omega) HRow.out.2.2).mono ?_; rintro e' w' ⟨a, rfl, ha, nx2, rfl⟩; (try simp only [zae] at ha); (try simp only [zad] at ha); have HA := Lib.hid ha; clear ha)
   refine bodyPost_ret (zaj rfl _ _ _ rfl ?_) rfl ?_
   · go_simp
   rw [HC.out]
   refine ⟨_, (by go_simp; rfl), ⟨rfl, rfl, rfl, rfl, rfl, rfl, rfl, ?_⟩, grI⟩
   refine ⟨[_], RowsV.one (x := AbV.arr _) (by go_simp) (by go_simp; rfl) (by go_simp), .inr (by first | (go_simp; done) | (go_simp; omega) | (simp only [Sl.b]; go_simp; omega)), .cons ?_ .nil⟩
   exact ((HA.out.turn (by simp only [zac, zaa, zar]; omega)).less (by simp only [zac, zaa, zar]; omega)).grow grI
end Go.Proofs.YthfalocligkamaaGreatDoor
