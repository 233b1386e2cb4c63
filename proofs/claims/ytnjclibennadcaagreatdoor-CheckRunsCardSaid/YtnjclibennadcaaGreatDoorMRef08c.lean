/-
  The document's abilities.
-/
import Derived.Test.YtnjclibennadcaaGreatDoorMRef08
import Derived.Test.YtnjclibennadcaaGreatDoorMRef08b
namespace Go.Proofs.YtnjclibennadcaaGreatDoor
open Go Go.RowKit

/-- An ability stands so in memory. -/
structure AbIs (w : World) (n : Nat) (a : AbV) (f : AbF) : Prop where
  wh : a.wh = f.wh
  cost : [a.c0, a.c1, a.c2, a.c3, a.c4, a.c5] = f.cost
  tap : a.tap = f.tap
  tg : a.tg = f.tg
  ef : EfIs w n a.ef f.ef
theorem AbIs.grow {w w' : World} {n : Nat} {a : AbV} {f : AbF} (h : AbIs w n a f) (g : Grow w w') : AbIs w' n a f := ⟨h.wh, h.cost, h.tap, h.tg, h.ef.grow g⟩
theorem AbIs.less {w : World} {m n : Nat} {a : AbV} {f : AbF} (h : AbIs w n a f) (hm : m ≤ n) : AbIs w m a f := ⟨h.wh, h.cost, h.tap, h.tg, h.ef.less hm⟩
def noCost : List Int := [0, 0, 0, 0, 0, 0]
/-- An ability out of a row. -/
def abL (l : List Int) : AbF := ⟨gt l 0, if 0 ≤ gt l 1 then noCost.set (gt l 1).toNat 1 else noCost, gt l 2 == 1, gt l 3, effL (l.drop 4)⟩
@[go_sem] theorem run_build_effect3 (w : World) (a b c : Int) : (bdRow 65 #[(0, .int .i64 a), (1, .int .i64 b), (2, .int .i64 c)]).run Tryz.prog w = .ok (.value (.agg (EfV.arr ⟨a, b, c, 0, .nil⟩))) w := by kernel_rfl
@[go_sem] theorem run_build_effect2 (w : World) (a b : Int) : (bdRow 65 #[(0, .int .i64 a), (1, .int .i64 b)]).run Tryz.prog w = .ok (.value (.agg (EfV.arr ⟨a, b, 0, 0, .nil⟩))) w := by kernel_rfl
@[go_sem] theorem run_build_effect2w (w : World) (a b c : Int) : (bdRow 65 #[(0, .int .i64 a), (1, .int .i64 b), (3, .int .i64 c)]).run Tryz.prog w = .ok (.value (.agg (EfV.arr ⟨a, b, 0, c, .nil⟩))) w := by kernel_rfl
set_option maxRecDepth 100000 in
theorem give08_any (w : World) (n c : Int) : Calls Tryz.prog 157 #[.int .i64 n, .int .i64 c] w fun e w' => ∃ a : AbV, e = .returned (.agg a.arr) ∧ AbIs w' w.heap.size a ⟨6, noCost, true, 0, ⟨15, n, c, 0, []⟩⟩ ∧ Grow w w' := by
  go_enter Tryz.func157, Tryz.ntmps157
  go_wp2_with fail
  refine bodyPost_ret (results_Ability rfl _ _ _ rfl ?_) rfl ?_
  · go_simp
  exact ⟨⟨6, 0, 0, 0, 0, 0, 0, true, 0, ⟨15, n, c, 0, .nil⟩⟩, by go_simp, ⟨rfl, rfl, rfl, rfl, ⟨rfl, rfl, rfl, rfl, RowsV.nil _ _, fun _ h => h.elim⟩⟩, grI⟩
/-- A slice from an index on. -/
def Sl.aft (s : Sl) (j : Nat) : Sl := match s with
  | .nil => .nil
  | .mk b o n c => .mk b (if c = j then o else o + j) (n - j) (c - j)
@[go_sem] theorem run_sliceInts (w : World) (s : Sl) (q : IntKind) (i : Int) (h0 : 0 ≤ i) (h1 : i ≤ s.n) : (Instr.slice 23 s.val (some (.int q i)) none none).run Tryz.prog w = .ok (s.aft i.toNat).val w := by
  have hk : ∀ w, (sizeOf 3).run Tryz.prog w = .ok 1 w := fun w => by kernel_rfl
  cases s with
  | nil =>
    have : i = 0 := by simp [Sl.n] at h1; omega
    subst this
    simp [Instr.slice, Sl.val, Sl.aft, run_underlying Tryz.underlying23, hk, Instr.sliceBounds, run_sliceBound]
  | mk b o n c =>
    simp only [Sl.n] at h1
    simp only [Instr.slice, Sl.val, Sl.aft, Sem.run_bind, run_underlying Tryz.underlying23, Result.andThen_ok, Instr.sliceBounds, Sem.run_pure, run_sliceBound w q i n _ h0 h1, hk]
    split <;> simp [Addr.add]
theorem Ints.aft {w : World} {s : Sl} {l : List Int} (h : Ints w s l) (j : Nat) (hj : j < l.length) : Ints w (s.aft j) (l.drop j) := by
  cases s with
  | nil => have := h.len; simp [Sl.n] at this; omega
  | mk b o n c =>
    have hn : n = l.length := h.len
    have hc : n ≤ c := h.cap
    refine ⟨by simp [Sl.aft, Sl.n, hn], by simp [Sl.aft, Sl.n, Sl.c]; omega, fun i hi => ?_⟩
    simp at hi
    have h1 := (h.at (j + i) (by omega)).2
    simp only [Sl.aft, Sl.b, Sl.o] at h1 ⊢
    rw [if_neg (by omega), Nat.add_assoc o, h1]
    simp [gt, List.getD, List.getElem?_drop]
@[go_sem] theorem run_build_ability08 (w : World) (a : Int) (t : Bool) (g : Int) (e : EfV) : (bdRow 67 #[(0, .int .i64 a), (2, .bool t), (3, .int .i64 g), (4, .agg e.arr)]).run Tryz.prog w = .ok (.value (.agg (AbV.arr ⟨a, 0, 0, 0, 0, 0, 0, t, g, e⟩))) w := by
  obtain ⟨op, n, m, who, s⟩ := e; cases s <;> kernel_rfl
@[go_sem] theorem AbV.set2 (a : AbV) (x : Int) : a.arr.setIfInBounds 2 (.int .i64 x) = AbV.arr { a with c1 := x } := rfl
@[go_sem] theorem AbV.set6 (a : AbV) (x : Int) : a.arr.setIfInBounds 6 (.int .i64 x) = AbV.arr { a with c5 := x } := rfl
theorem EfIs.off {b n : Nat} {w w' : World} {e : EfV} {f : EfF} (h : EfIs w n e f) (ho : Off b w w') (hb : b < n) : EfIs w' n e f := by
  refine ⟨h.op, h.amt, h.mor, h.who, ?_, h.low⟩
  by_cases hs : 0 < e.subs.n
  · exact h.subs.off ho (fun e2 => by have := h.low _ (Sl.owns_b hs); omega)
  · have hl := h.subs.len
    have h0 : f.subs.map subV = [] := List.eq_nil_of_length_eq_zero (by omega)
    rw [h0]
    exact ⟨by rw [hl, h0], h.subs.cap, fun x hx => by simp at hx, fun i j x hx => by simp at hx⟩
set_option maxRecDepth 100000 in
set_option maxHeartbeats 4000000 in
theorem ability08_any (w : World) (s : Sl) (l : List Int) (R : Ints w s l) (q : Nat) (hq : l.length = 4 * (q + 2)) (hq2 : q ≤ 100) (hc : gt l 1 = -1 ∨ gt l 1 = 1 ∨ gt l 1 = 5) :
    Calls Tryz.prog 160 #[s.val] w fun e w' => ∃ a : AbV, e = .returned (.agg a.arr) ∧ AbIs w' w.heap.size a (abL l) ∧ Grow w w' := by
  have hsn := R.len
  obtain ⟨b0, c0⟩ := R.at 0 (by omega)
  obtain ⟨_, c1⟩ := R.at 1 (by omega)
  obtain ⟨_, c2⟩ := R.at 2 (by omega)
  obtain ⟨_, c3⟩ := R.at 3 (by omega)
  have ne : ¬ s.b = w.heap.size := by omega
  rw [Nat.add_zero] at c0
  change _ = some (Value.int .i64 (gt l 0)) at c0
  change _ = some (Value.int .i64 (gt l 1)) at c1
  change _ = some (Value.int .i64 (gt l 2)) at c2
  change _ = some (Value.int .i64 (gt l 3)) at c3
  have n0 : 0 < s.n := by omega
  have n1 : (1 : Int) < s.n := by omega
  have n2 : (2 : Int) < s.n := by omega
  have n3 : (3 : Int) < s.n := by omega
  have n4 : (4 : Int) ≤ s.n := by omega
  have HE := Lib.hid (fun W (g : Grow w W) => effect08_any W (s.aft 4) (l.drop 4) ((R.grow g).aft 4 (by omega)) q (by simp; omega) hq2)
  clear R hsn
  have HA : Hid (abL l = ⟨gt l 0, if 0 ≤ gt l 1 then noCost.set (gt l 1).toNat 1 else noCost, gt l 2 == 1, gt l 3, effL (l.drop 4)⟩) := rfl
  generalize gt l 0 = a0 at *
  generalize gt l 2 = a2 at *
  generalize gt l 3 = a3 at *
  generalize effL (l.drop 4) = f at *
  rcases hc with hc | hc | hc
  all_goals
    rw [hc] at c1 HA
    go_enter Tryz.func160, Tryz.ntmps160
    go_wp2_with fail
  all_goals
    go_region_held3 (fun W => W.cell? ⟨s.b, s.o, none⟩ = some (.int .i64 a0) ∧ (∃ k1, gt l 1 = k1 ∧ W.cell? ⟨s.b, s.o + 1, none⟩ = some (.int .i64 k1)) ∧ W.cell? ⟨s.b, s.o + 2, none⟩ = some (.int .i64 a2) ∧ W.cell? ⟨s.b, s.o + 3, none⟩ = some (.int .i64 a3)) (simp [go_sem, *]) (first | (go_at_call 159; refine (HE.out _ grI).mono ?_; rintro e' w' ⟨x, rfl, hx, nx, rfl⟩; (try simp only [drew_plus] at hx); (try simp only [plus_plus] at hx); have HX := Lib.hid hx; clear hx))
  · go_wp2_with fail
    refine bodyPost_ret (results_Ability rfl _ _ _ rfl ?_) rfl ?_
    · go_simp
    refine ⟨⟨a0, 0, 0, 0, 0, 0, 0, a2 == 1, a3, x⟩, by go_simp, ?_, grI⟩
    rw [HA.out]
    refine ⟨rfl, rfl, rfl, rfl, ?_⟩
    exact (((HX.out.less (m := w.heap.size + 1) (by simp only [drew_size', alloc_size']; omega)).off (b := w.heap.size) (w' := (w.alloc (.cells (AbV.arr ⟨a0, 0, 0, 0, 0, 0, 0, a2 == 1, a3, x⟩) 67)).plus nx.late) (by repeat (first | exact Off.base _ _ _ _ rfl | refine Off.plus ?_ _ | refine Off.alloc ?_ _)) (by omega)).less (by omega)).grow grI
  · go_wp2_with fail
    refine bodyPost_ret (results_Ability rfl _ _ _ rfl ?_) rfl ?_
    · go_simp
    refine ⟨⟨a0, 0, 0, 0, 0, 0, 0, a2 == 1, a3, x⟩, by go_simp, ?_, grI⟩
    rw [HA.out]
    refine ⟨rfl, rfl, rfl, rfl, ?_⟩
    exact ((((HX.out.less (m := w.heap.size + 2) (by simp only [drew_size', alloc_size']; omega)).off (b := w.heap.size + 1) (w' := ((w.alloc (.cells (AbV.arr ⟨0, 0, 0, 0, 0, 0, 0, false, 0, ⟨0, 0, 0, 0, .nil⟩⟩) 67)).alloc (.cells (AbV.arr ⟨a0, 0, 0, 0, 0, 0, 0, a2 == 1, a3, x⟩) 67)).plus nx.late) (by repeat (first | exact Off.base _ _ _ _ (alloc_size' _ _).symm | refine Off.plus ?_ _ | refine Off.alloc ?_ _)) (by omega)).off (b := w.heap.size) (w' := ((w.alloc (.cells (AbV.arr ⟨a0, 0, 0, 0, 0, 0, 0, a2 == 1, a3, x⟩) 67)).alloc (.cells (AbV.arr ⟨a0, 0, 0, 0, 0, 0, 0, a2 == 1, a3, x⟩) 67)).plus nx.late) (by repeat (first | exact Off.base _ _ _ _ rfl | refine Off.plus ?_ _ | refine Off.alloc ?_ _)) (by omega)).less (by omega)).grow grI
  · go_wp2_with fail
    refine bodyPost_ret (results_Ability rfl _ _ _ rfl ?_) rfl ?_
    · go_simp
    refine ⟨⟨a0, 0, 1, 0, 0, 0, 0, a2 == 1, a3, x⟩, by go_simp, ?_, grI⟩
    rw [HA.out]
    refine ⟨rfl, rfl, rfl, rfl, ?_⟩
    exact (((HX.out.less (m := w.heap.size + 1) (by simp only [drew_size', alloc_size']; omega)).off (b := w.heap.size) (w' := (w.alloc (.cells (AbV.arr ⟨a0, 0, 1, 0, 0, 0, 0, a2 == 1, a3, x⟩) 67)).plus nx.late) (by repeat (first | exact Off.base _ _ _ _ rfl | refine Off.plus ?_ _ | refine Off.alloc ?_ _)) (by omega)).less (by omega)).grow grI
  · go_wp2_with fail
    refine bodyPost_ret (results_Ability rfl _ _ _ rfl ?_) rfl ?_
    · go_simp
    refine ⟨⟨a0, 0, 1, 0, 0, 0, 0, a2 == 1, a3, x⟩, by go_simp, ?_, grI⟩
    rw [HA.out]
    refine ⟨rfl, rfl, rfl, rfl, ?_⟩
    exact ((((HX.out.less (m := w.heap.size + 2) (by simp only [drew_size', alloc_size']; omega)).off (b := w.heap.size + 1) (w' := ((w.alloc (.cells (AbV.arr ⟨0, 0, 0, 0, 0, 0, 0, false, 0, ⟨0, 0, 0, 0, .nil⟩⟩) 67)).alloc (.cells (AbV.arr ⟨a0, 0, 1, 0, 0, 0, 0, a2 == 1, a3, x⟩) 67)).plus nx.late) (by repeat (first | exact Off.base _ _ _ _ (alloc_size' _ _).symm | refine Off.plus ?_ _ | refine Off.alloc ?_ _)) (by omega)).off (b := w.heap.size) (w' := ((w.alloc (.cells (AbV.arr ⟨a0, 0, 1, 0, 0, 0, 0, a2 == 1, a3, x⟩) 67)).alloc (.cells (AbV.arr ⟨a0, 0, 1, 0, 0, 0, 0, a2 == 1, a3, x⟩) 67)).plus nx.late) (by repeat (first | exact Off.base _ _ _ _ rfl | refine Off.plus ?_ _ | refine Off.alloc ?_ _)) (by omega)).less (by omega)).grow grI
  · go_wp2_with fail
    refine bodyPost_ret (results_Ability rfl _ _ _ rfl ?_) rfl ?_
    · go_simp
    refine ⟨⟨a0, 0, 0, 0, 0, 0, 1, a2 == 1, a3, x⟩, by go_simp, ?_, grI⟩
    rw [HA.out]
    refine ⟨rfl, rfl, rfl, rfl, ?_⟩
    exact (((HX.out.less (m := w.heap.size + 1) (by simp only [drew_size', alloc_size']; omega)).off (b := w.heap.size) (w' := (w.alloc (.cells (AbV.arr ⟨a0, 0, 0, 0, 0, 0, 1, a2 == 1, a3, x⟩) 67)).plus nx.late) (by repeat (first | exact Off.base _ _ _ _ rfl | refine Off.plus ?_ _ | refine Off.alloc ?_ _)) (by omega)).less (by omega)).grow grI
  · go_wp2_with fail
    refine bodyPost_ret (results_Ability rfl _ _ _ rfl ?_) rfl ?_
    · go_simp
    refine ⟨⟨a0, 0, 0, 0, 0, 0, 1, a2 == 1, a3, x⟩, by go_simp, ?_, grI⟩
    rw [HA.out]
    refine ⟨rfl, rfl, rfl, rfl, ?_⟩
    exact ((((HX.out.less (m := w.heap.size + 2) (by simp only [drew_size', alloc_size']; omega)).off (b := w.heap.size + 1) (w' := ((w.alloc (.cells (AbV.arr ⟨0, 0, 0, 0, 0, 0, 0, false, 0, ⟨0, 0, 0, 0, .nil⟩⟩) 67)).alloc (.cells (AbV.arr ⟨a0, 0, 0, 0, 0, 0, 1, a2 == 1, a3, x⟩) 67)).plus nx.late) (by repeat (first | exact Off.base _ _ _ _ (alloc_size' _ _).symm | refine Off.plus ?_ _ | refine Off.alloc ?_ _)) (by omega)).off (b := w.heap.size) (w' := ((w.alloc (.cells (AbV.arr ⟨a0, 0, 0, 0, 0, 0, 1, a2 == 1, a3, x⟩) 67)).alloc (.cells (AbV.arr ⟨a0, 0, 0, 0, 0, 0, 1, a2 == 1, a3, x⟩) 67)).plus nx.late) (by repeat (first | exact Off.base _ _ _ _ rfl | refine Off.plus ?_ _ | refine Off.alloc ?_ _)) (by omega)).less (by omega)).grow grI
end Go.Proofs.YtnjclibennadcaaGreatDoor
