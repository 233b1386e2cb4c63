/-
  The document's table: the walk.
-/
import Derived.Test.YtnjclibennadcaaGreatDoorMRef08d
namespace Go.Proofs.YtnjclibennadcaaGreatDoor
open Go Go.RowKit

@[go_sem] theorem CdV.set0 (c : CdV) (x : Int) : c.arr.setIfInBounds 0 (.int .i64 x) = CdV.arr { c with kind := x } := rfl
@[go_sem] theorem CdV.set1 (c : CdV) (x : Int) : c.arr.setIfInBounds 1 (.int .i64 x) = CdV.arr { c with col := x } := rfl
@[go_sem] theorem CdV.set2 (c : CdV) (x : Bool) : c.arr.setIfInBounds 2 (.bool x) = CdV.arr { c with fast := x } := rfl
@[go_sem] theorem CdV.set3 (c : CdV) (x : Int) : c.arr.setIfInBounds 3 (.int .i64 x) = CdV.arr { c with c0 := x } := rfl
@[go_sem] theorem CdV.set4 (c : CdV) (x : Int) : c.arr.setIfInBounds 4 (.int .i64 x) = CdV.arr { c with c1 := x } := rfl
@[go_sem] theorem CdV.set5 (c : CdV) (x : Int) : c.arr.setIfInBounds 5 (.int .i64 x) = CdV.arr { c with c2 := x } := rfl
@[go_sem] theorem CdV.set6 (c : CdV) (x : Int) : c.arr.setIfInBounds 6 (.int .i64 x) = CdV.arr { c with c3 := x } := rfl
@[go_sem] theorem CdV.set7 (c : CdV) (x : Int) : c.arr.setIfInBounds 7 (.int .i64 x) = CdV.arr { c with c4 := x } := rfl
@[go_sem] theorem CdV.set8 (c : CdV) (x : Int) : c.arr.setIfInBounds 8 (.int .i64 x) = CdV.arr { c with c5 := x } := rfl
@[go_sem] theorem CdV.get1 (c : CdV) : c.arr[1]? = some (I c.col) := rfl
@[go_sem] theorem CdV.get1' (c : CdV) (h : 1 < c.arr.size) : c.arr[1]'h = I c.col := rfl
@[go_sem] theorem build_card5 (w : World) : (bdRow 73 #[(1, .int .i64 5)]).run Tryz.prog w = .ok (.value (.agg (CdV.arr ⟨0, 5, false, 0, 0, 0, 0, 0, 0, 0, 0, 0, .nil⟩))) w := by kernel_rfl
theorem AbIs.off {b n : Nat} {w w' : World} {a : AbV} {f : AbF} (h : AbIs w n a f) (ho : Off b w w') (hb : b < n) : AbIs w' n a f := ⟨h.wh, h.cost, h.tap, h.tg, h.ef.off ho hb⟩
def Card08 (w w' : World) (r : Ending) (d : CardF) : Prop := ∃ c : CdV, r = .returned (.tuple #[.agg c.arr, .bool true]) ∧ CardIs w' w.heap.size c d ∧ Grow w w'
/-- An effect with nothing within stands so in any world. -/
theorem EfIs.plain (w : World) (n : Nat) (o a b c : Int) : EfIs w n ⟨o, a, b, c, .nil⟩ ⟨o, a, b, c, []⟩ := ⟨rfl, rfl, rfl, rfl, RowsV.nil _ _, fun _ h => h.elim⟩
theorem AbIs.free {w : World} {n : Nat} {a : AbV} {f : AbF} (h : AbIs w n a f) (hs : f.ef.subs = []) (w' : World) : AbIs w' n a f :=
  ⟨h.wh, h.cost, h.tap, h.tg, ⟨h.ef.op, h.ef.amt, h.ef.mor, h.ef.who, by
    have hl := h.ef.subs.len
    rw [hs] at hl ⊢
    exact ⟨hl, h.ef.subs.cap, fun x hx => by simp at hx, fun i j x hx => by simp at hx⟩, h.ef.low⟩⟩
theorem AbIs.turn {w : World} {A A' B B' : Obj} {x : Ext} {n : Nat} {a : AbV} {f : AbF} (h : AbIs (((w.alloc A).alloc B).plus x) n a f) (hn : w.heap.size + 2 ≤ n) : AbIs (((w.alloc A').alloc B').plus x) n a f :=
  (h.off (b := w.heap.size + 1) (w' := ((w.alloc A).alloc B').plus x) (by repeat (first | exact Off.base _ _ _ _ (alloc_size' _ _).symm | refine Off.plus ?_ _ | refine Off.alloc ?_ _)) (by omega)).off (b := w.heap.size) (by repeat (first | exact Off.base _ _ _ _ rfl | refine Off.plus ?_ _ | refine Off.alloc ?_ _)) (by omega)
@[go_sem] theorem cells_5 (a b c d e : Int) (t : TypeId) (fr : Nat × Nat) : Obj.cells #[.int .i64 a, .int .i64 b, .int .i64 c, .int .i64 d, .int .i64 e] t fr = .cells (cellsOf [a, b, c, d, e]) t fr := rfl
@[go_sem] theorem cells_8 (a b c d e f g h : Int) (t : TypeId) (fr : Nat × Nat) : Obj.cells #[.int .i64 a, .int .i64 b, .int .i64 c, .int .i64 d, .int .i64 e, .int .i64 f, .int .i64 g, .int .i64 h] t fr = .cells (cellsOf [a, b, c, d, e, f, g, h]) t fr := rfl
set_option maxRecDepth 100000 in
set_option maxHeartbeats 4000000 in
theorem c08_source (w : World) (n : Nat) (hn : n < 5) : Calls Tryz.prog 96 #[.int .i64 (n : Int)] w fun r w' => Card08 w w' r (cardF n) := by
  have HC : Hid (cardF n = ⟨0, n, false, noCost, 0, 0, 0, [giveF 1 n]⟩) := by rw [Hid, cardF, if_pos hn]
  go_enter Tryz.func96, Tryz.ntmps96
  go_wp2_with (go_at_call 157; refine (give08_any _ _ _).mono ?_; rintro e' w' ⟨a, rfl, ha, nx, rfl⟩; (try simp only [drew_plus] at ha); (try simp only [plus_plus] at ha); have HA := Lib.hid ha; clear ha)
  refine bodyPost_ret (results2_Card rfl _ _ _ rfl ?_) rfl ?_
  · go_simp
  rw [HC.out]
  refine ⟨_, (by go_simp; rfl), ⟨rfl, rfl, rfl, rfl, rfl, rfl, rfl, ?_⟩, grI⟩
  exact ⟨[a], RowsV.one (x := AbV.arr a) (by go_simp) (by go_simp) (by go_simp), .inr (by first | (go_simp; done) | (go_simp; omega) | (simp only [Sl.b]; go_simp; omega)), .cons (((HA.out.turn (by simp only [alloc_size']; omega)).less (by first | (go_simp; done) | (go_simp; omega) | (simp only [Sl.b]; go_simp; omega))).grow grI) .nil⟩
set_option maxRecDepth 100000 in
set_option maxHeartbeats 4000000 in
theorem c08_source5 (w : World) (n : Nat) (hn : n < 5) : Calls Tryz.prog 96 #[.int .i64 ((n : Int) + 5)] w fun r w' => Card08 w w' r (cardF (n + 5)) := by
  have HC : Hid (cardF (n + 5) = ⟨0, 5, false, noCost, 0, 0, 0, [enterF ⟨3, (n : Int) + 1, 0, 0, []⟩, giveF (gt [1, 1, 2, 2, 3] n) 5]⟩) := by
    rw [Hid, cardF, if_neg (by omega), if_pos (by omega), show n + 5 - 5 = n by omega, show ((n + 5 : Nat) : Int) - 4 = n + 1 by omega]
  go_enter Tryz.func96, Tryz.ntmps96
  go_wp2_with (go_at_call 157; refine (give08_any _ _ _).mono ?_; rintro e' w' ⟨a, rfl, ha, nx, rfl⟩; (try simp only [drew_plus] at ha); (try simp only [plus_plus] at ha); have HA := Lib.hid ha; clear ha)
  refine bodyPost_ret (results2_Card rfl _ _ _ rfl ?_) rfl ?_
  · go_simp
  rw [HC.out]
  refine ⟨_, (by go_simp; rfl), ⟨rfl, rfl, rfl, rfl, rfl, rfl, rfl, ?_⟩, grI⟩
  refine ⟨[⟨2, 0, 0, 0, 0, 0, 0, false, 0, ⟨3, (n : Int) + 5 - 4, 0, 0, .nil⟩⟩, a], RowsV.two (x := AbV.arr _) (y := AbV.arr a) (by go_simp) (by go_simp) (by go_simp) (by go_simp), .inr (by first | (go_simp; done) | (go_simp; omega) | (simp only [Sl.b]; go_simp; omega)), .cons ⟨rfl, rfl, rfl, rfl, ?_⟩ (.cons (((HA.out.free rfl _).less (by first | (go_simp; done) | (go_simp; omega) | (simp only [Sl.b]; go_simp; omega)))) .nil)⟩
  rw [show (n : Int) + 1 = (n : Int) + 5 - 4 by omega]
  exact EfIs.plain _ _ _ _ _ _
set_option maxRecDepth 100000 in
set_option maxHeartbeats 4000000 in
theorem c08_token (w : World) (n : Nat) (hn : n < 8) : Calls Tryz.prog 96 #[.int .i64 ((n : Int) + 112)] w fun r w' => Card08 w w' r (cardF (n + 112)) := by
  have HC : Hid (cardF (n + 112) = ⟨1, 5, false, noCost, gt eight n, gt eight n, ((n : Int) + 112) % 2, []⟩) := by
    rw [Hid, cardF, if_neg (by omega), if_neg (by omega), if_neg (by omega), if_neg (by omega), if_neg (by omega), if_neg (by omega), show n + 112 - 112 = n by omega]; rfl
  go_enter Tryz.func96, Tryz.ntmps96
  go_wp2_with fail
  refine bodyPost_ret (results2_Card rfl _ _ _ rfl ?_) rfl ?_
  · go_simp
  rw [HC.out]
  refine ⟨_, (by go_simp; rfl), ⟨rfl, rfl, rfl, rfl, rfl, rfl, rfl, ?_⟩, grI⟩
  exact ⟨[], RowsV.nil _ _, .inl rfl, .nil⟩
theorem eight_in : ∀ k, k < 8 → 0 ≤ gt [1, 1, 2, 2, 3, 3, 4, 4] k ∧ gt [1, 1, 2, 2, 3, 3, 4, 4] k ≤ 4 ∧ 0 ≤ gt [1, 2, 2, 3, 3, 4, 4, 5] k ∧ gt [1, 2, 2, 3, 3, 4, 4, 5] k ≤ 5 := by decide
@[go_sem] theorem build_cost3 (w : World) : (bdRow 62 #[(3, .int .i64 1)]).run Tryz.prog w = .ok (.value (.agg (cellsOf [0, 0, 0, 1, 0, 0]))) w := by kernel_rfl
@[go_sem] theorem build_cost4 (w : World) : (bdRow 62 #[(4, .int .i64 1)]).run Tryz.prog w = .ok (.value (.agg (cellsOf [0, 0, 0, 0, 1, 0]))) w := by kernel_rfl
@[go_sem] theorem build_ab08 (w : World) (c0 c1 c2 c3 c4 c5 : Int) (e : EfV) : (bdRow 67 #[(0, .int .i64 1), (1, .agg (cellsOf [c0, c1, c2, c3, c4, c5])), (4, .agg e.arr)]).run Tryz.prog w = .ok (.value (.agg (AbV.arr ⟨1, c0, c1, c2, c3, c4, c5, false, 0, e⟩))) w := by
  obtain ⟨op, n, m, who, s⟩ := e; cases s <;> kernel_rfl
@[go_sem] theorem build_ab0 (w : World) : (bdRow 67 #[]).run Tryz.prog w = .ok (.value (.agg (AbV.arr ⟨0, 0, 0, 0, 0, 0, 0, false, 0, ⟨0, 0, 0, 0, .nil⟩⟩))) w := by kernel_rfl
end Go.Proofs.YtnjclibennadcaaGreatDoor
