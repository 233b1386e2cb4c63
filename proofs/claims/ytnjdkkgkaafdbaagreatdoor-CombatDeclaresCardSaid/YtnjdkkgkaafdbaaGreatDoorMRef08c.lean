/-
  The document's abilities.
  The document's cards, in plain words.
  The document's table: the walk.
-/
import Derived.Test.YtnjdkkgkaafdbaaGreatDoorMRef08
namespace Go.Proofs.YtnjdkkgkaafdbaaGreatDoor
open Go Go.RowKit

/-- An ability stands so in memory. -/
structure AbIs (w : World) (n : Nat) (a : AbV) (f : AbF) : Prop where
  wh : a.wh = f.wh
  cost : [a.c0, a.c1, a.c2, a.c3, a.c4, a.c5] = f.cost
  tap : a.tap = f.tap
  tg : a.tg = f.tg
  ef : EfIs w n a.ef f.ef
theorem AbIs.grow {w w' : World} {n : Nat} {a : AbV} {f : AbF} (h : AbIs w n a f) (g : Grow w w') : AbIs w' n a f := ⟨h.wh, h.cost, h.tap, h.tg, h.ef.grow g⟩
theorem AbIs.less {w : World} {m n : Nat} {a : AbV} {f : AbF} (h : AbIs w n a f) (hm : m ≤ n) : AbIs w m a f := ⟨h.wh, h.cost, h.tap, h.tg, h.ef.less hm⟩
def noCost : List Int := [0, 0, 0, 0, 0, 0]
/-- An ability out of a row. -/
def abL (l : List Int) : AbF := ⟨gt l 0, if 0 ≤ gt l 1 then noCost.set (gt l 1).toNat 1 else noCost, gt l 2 == 1, gt l 3, effL (l.drop 4)⟩
@[go_sem] theorem run_build_effect3 (w : World) (a b c : Int) : (bdRow 118 #[(0, .int .i64 a), (1, .int .i64 b), (2, .int .i64 c)]).run Tryz.prog w = .ok (.value (.agg (EfV.arr ⟨a, b, c, 0, .nil⟩))) w := by kernel_rfl
@[go_sem] theorem run_build_effect2 (w : World) (a b : Int) : (bdRow 118 #[(0, .int .i64 a), (1, .int .i64 b)]).run Tryz.prog w = .ok (.value (.agg (EfV.arr ⟨a, b, 0, 0, .nil⟩))) w := by kernel_rfl
@[go_sem] theorem run_build_effect2w (w : World) (a b c : Int) : (bdRow 118 #[(0, .int .i64 a), (1, .int .i64 b), (3, .int .i64 c)]).run Tryz.prog w = .ok (.value (.agg (EfV.arr ⟨a, b, 0, c, .nil⟩))) w := by kernel_rfl
set_option maxRecDepth 100000 in
theorem give08_any (w : World) (n c : Int) : Calls Tryz.prog 128 #[.int .i64 n, .int .i64 c] w fun e w' => ∃ a : AbV, e = .returned (.agg a.arr) ∧ AbIs w' w.heap.size a ⟨6, noCost, true, 0, ⟨15, n, c, 0, []⟩⟩ ∧ Grow w w' := by
  go_enter Tryz.func128, Tryz.ntmps128
  go_wp2_with fail
  refine bodyPost_ret (results_Ability rfl _ _ _ rfl ?_) rfl ?_
  · go_simp
  exact ⟨⟨6, 0, 0, 0, 0, 0, 0, true, 0, ⟨15, n, c, 0, .nil⟩⟩, by go_simp, ⟨rfl, rfl, rfl, rfl, ⟨rfl, rfl, rfl, rfl, RowsV.nil _ _, fun _ h => h.elim⟩⟩, grI⟩
/-- A slice from an index on. -/
def Sl.aft (s : Sl) (j : Nat) : Sl := match s with
  | .nil => .nil
  | .mk b o n c => .mk b (if c = j then o else o + j) (n - j) (c - j)
@[go_sem] theorem run_sliceInts (w : World) (s : Sl) (q : IntKind) (i : Int) (h0 : 0 ≤ i) (h1 : i ≤ s.n) : (Instr.slice 23 s.val (some (.int q i)) none none).run Tryz.prog w = .ok (s.aft i.toNat).val w := by
  have hk : ∀ w, (sizeOf 3).run Tryz.prog w = .ok 1 w := fun w => by kernel_rfl
  cases s with
  | nil =>
    have : i = 0 := by simp [Sl.n] at h1; omega
    subst this
    simp [Instr.slice, Sl.val, Sl.aft, run_underlying Tryz.underlying23, hk, Instr.sliceBounds, run_sliceBound]
  | mk b o n c =>
    simp only [Sl.n] at h1
    simp only [Instr.slice, Sl.val, Sl.aft, Sem.run_bind, run_underlying Tryz.underlying23, Result.andThen_ok, Instr.sliceBounds, Sem.run_pure, run_sliceBound w q i n _ h0 h1, hk]
    split <;> simp [Addr.add]
theorem Ints.aft {w : World} {s : Sl} {l : List Int} (h : Ints w s l) (j : Nat) (hj : j < l.length) : Ints w (s.aft j) (l.drop j) := by
  cases s with
  | nil => have := h.len; simp [Sl.n] at this; omega
  | mk b o n c =>
    have hn : n = l.length := h.len
    have hc : n ≤ c := h.cap
    refine ⟨by simp [Sl.aft, Sl.n, hn], by simp [Sl.aft, Sl.n, Sl.c]; omega, fun i hi => ?_⟩
    simp at hi
    have h1 := (h.at (j + i) (by omega)).2
    simp only [Sl.aft, Sl.b, Sl.o] at h1 ⊢
    rw [if_neg (by omega), Nat.add_assoc o, h1]
    simp [gt, List.getD, List.getElem?_drop]
@[go_sem] theorem run_build_ability08 (w : World) (a : Int) (t : Bool) (g : Int) (e : EfV) : (bdRow 159 #[(0, .int .i64 a), (2, .bool t), (3, .int .i64 g), (4, .agg e.arr)]).run Tryz.prog w = .ok (.value (.agg (AbV.arr ⟨a, 0, 0, 0, 0, 0, 0, t, g, e⟩))) w := by
  obtain ⟨op, n, m, who, s⟩ := e; cases s <;> kernel_rfl
@[go_sem] theorem AbV.set2 (a : AbV) (x : Int) : a.arr.setIfInBounds 2 (.int .i64 x) = AbV.arr { a with c1 := x } := rfl
@[go_sem] theorem AbV.set6 (a : AbV) (x : Int) : a.arr.setIfInBounds 6 (.int .i64 x) = AbV.arr { a with c5 := x } := rfl
theorem EfIs.off {b n : Nat} {w w' : World} {e : EfV} {f : EfF} (h : EfIs w n e f) (ho : Off b w w') (hb : b < n) : EfIs w' n e f := by
  refine ⟨h.op, h.amt, h.mor, h.who, ?_, h.low⟩
  by_cases hs : 0 < e.subs.n
  · exact h.subs.off ho (fun e2 => by have := h.low _ (Sl.owns_b hs); omega)
  · have hl := h.subs.len
    have h0 : f.subs.map subV = [] := List.eq_nil_of_length_eq_zero (by omega)
    rw [h0]
    exact ⟨by rw [hl, h0], h.subs.cap, fun x hx => by simp at hx, fun i j x hx => by simp at hx⟩
set_option maxRecDepth 100000 in
set_option maxHeartbeats 4000000 in
theorem ability08_any (w : World) (s : Sl) (l : List Int) (R : Ints w s l) (q : Nat) (hq : l.length = 4 * (q + 2)) (hq2 : q ≤ 100) (hc : gt l 1 = -1 ∨ gt l 1 = 1 ∨ gt l 1 = 5) :
    Calls Tryz.prog 131 #[s.val] w fun e w' => ∃ a : AbV, e = .returned (.agg a.arr) ∧ AbIs w' w.heap.size a (abL l) ∧ Grow w w' := by
  have hsn := R.len
  obtain ⟨b0, c0⟩ := R.at 0 (by omega)
  obtain ⟨_, c1⟩ := R.at 1 (by omega)
  obtain ⟨_, c2⟩ := R.at 2 (by omega)
  obtain ⟨_, c3⟩ := R.at 3 (by omega)
  have ne : ¬ s.b = w.heap.size := by omega
  rw [Nat.add_zero] at c0
  change _ = some (Value.int .i64 (gt l 0)) at c0
  change _ = some (Value.int .i64 (gt l 1)) at c1
  change _ = some (Value.int .i64 (gt l 2)) at c2
  change _ = some (Value.int .i64 (gt l 3)) at c3
  have n0 : 0 < s.n := by omega
  have n1 : (1 : Int) < s.n := by omega
  have n2 : (2 : Int) < s.n := by omega
  have n3 : (3 : Int) < s.n := by omega
  have n4 : (4 : Int) ≤ s.n := by omega
  have HE := Lib.hid (fun W (g : Grow w W) => effect08_any W (s.aft 4) (l.drop 4) ((R.grow g).aft 4 (by omega)) q (by simp; omega) hq2)
  clear R hsn
  have HA : Hid (abL l = ⟨gt l 0, if 0 ≤ gt l 1 then noCost.set (gt l 1).toNat 1 else noCost, gt l 2 == 1, gt l 3, effL (l.drop 4)⟩) := rfl
  generalize gt l 0 = a0 at *
  generalize gt l 2 = a2 at *
  generalize gt l 3 = a3 at *
  generalize effL (l.drop 4) = f at *
  rcases hc with hc | hc | hc
  all_goals
    rw [hc] at c1 HA
    go_enter Tryz.func131, Tryz.ntmps131
    go_wp2_with fail
  all_goals
    go_region_held3 (fun W => W.cell? ⟨s.b, s.o, none⟩ = some (.int .i64 a0) ∧ (∃ k1, gt l 1 = k1 ∧ W.cell? ⟨s.b, s.o + 1, none⟩ = some (.int .i64 k1)) ∧ W.cell? ⟨s.b, s.o + 2, none⟩ = some (.int .i64 a2) ∧ W.cell? ⟨s.b, s.o + 3, none⟩ = some (.int .i64 a3)) (simp [go_sem, *]) (first | (go_at_call 130; refine (HE.out _ grI).mono ?_; rintro e' w' ⟨x, rfl, hx, nx, rfl⟩; (try simp only [drew_plus] at hx); (try simp only [plus_plus] at hx); have HX := Lib.hid hx; clear hx))
  · go_wp2_with fail
    refine bodyPost_ret (results_Ability rfl _ _ _ rfl ?_) rfl ?_
    · go_simp
    refine ⟨⟨a0, 0, 0, 0, 0, 0, 0, a2 == 1, a3, x⟩, by go_simp, ?_, grI⟩
    rw [HA.out]
    refine ⟨rfl, rfl, rfl, rfl, ?_⟩
    exact (((HX.out.less (m := w.heap.size + 1) (by simp only [drew_size', alloc_size']; omega)).off (b := w.heap.size) (w' := (w.alloc (.cells (AbV.arr ⟨a0, 0, 0, 0, 0, 0, 0, a2 == 1, a3, x⟩) 159)).plus nx.late) (by repeat (first | exact Off.base _ _ _ _ rfl | refine Off.plus ?_ _ | refine Off.alloc ?_ _)) (by omega)).less (by omega)).grow grI
  · go_wp2_with fail
    refine bodyPost_ret (results_Ability rfl _ _ _ rfl ?_) rfl ?_
    · go_simp
    refine ⟨⟨a0, 0, 0, 0, 0, 0, 0, a2 == 1, a3, x⟩, by go_simp, ?_, grI⟩
    rw [HA.out]
    refine ⟨rfl, rfl, rfl, rfl, ?_⟩
    exact ((((HX.out.less (m := w.heap.size + 2) (by simp only [drew_size', alloc_size']; omega)).off (b := w.heap.size + 1) (w' := ((w.alloc (.cells (AbV.arr ⟨0, 0, 0, 0, 0, 0, 0, false, 0, ⟨0, 0, 0, 0, .nil⟩⟩) 159)).alloc (.cells (AbV.arr ⟨a0, 0, 0, 0, 0, 0, 0, a2 == 1, a3, x⟩) 159)).plus nx.late) (by repeat (first | exact Off.base _ _ _ _ (alloc_size' _ _).symm | refine Off.plus ?_ _ | refine Off.alloc ?_ _)) (by omega)).off (b := w.heap.size) (w' := ((w.alloc (.cells (AbV.arr ⟨a0, 0, 0, 0, 0, 0, 0, a2 == 1, a3, x⟩) 159)).alloc (.cells (AbV.arr ⟨a0, 0, 0, 0, 0, 0, 0, a2 == 1, a3, x⟩) 159)).plus nx.late) (by repeat (first | exact Off.base _ _ _ _ rfl | refine Off.plus ?_ _ | refine Off.alloc ?_ _)) (by omega)).less (by omega)).grow grI
  · go_wp2_with fail
    refine bodyPost_ret (results_Ability rfl _ _ _ rfl ?_) rfl ?_
    · go_simp
    refine ⟨⟨a0, 0, 1, 0, 0, 0, 0, a2 == 1, a3, x⟩, by go_simp, ?_, grI⟩
    rw [HA.out]
    refine ⟨rfl, rfl, rfl, rfl, ?_⟩
    exact (((HX.out.less (m := w.heap.size + 1) (by simp only [drew_size', alloc_size']; omega)).off (b := w.heap.size) (w' := (w.alloc (.cells (AbV.arr ⟨a0, 0, 1, 0, 0, 0, 0, a2 == 1, a3, x⟩) 159)).plus nx.late) (by repeat (first | exact Off.base _ _ _ _ rfl | refine Off.plus ?_ _ | refine Off.alloc ?_ _)) (by omega)).less (by omega)).grow grI
  · go_wp2_with fail
    refine bodyPost_ret (results_Ability rfl _ _ _ rfl ?_) rfl ?_
    · go_simp
    refine ⟨⟨a0, 0, 1, 0, 0, 0, 0, a2 == 1, a3, x⟩, by go_simp, ?_, grI⟩
    rw [HA.out]
    refine ⟨rfl, rfl, rfl, rfl, ?_⟩
    exact ((((HX.out.less (m := w.heap.size + 2) (by simp only [drew_size', alloc_size']; omega)).off (b := w.heap.size + 1) (w' := ((w.alloc (.cells (AbV.arr ⟨0, 0, 0, 0, 0, 0, 0, false, 0, ⟨0, 0, 0, 0, .nil⟩⟩) 159)).alloc (.cells (AbV.arr ⟨a0, 0, 1, 0, 0, 0, 0, a2 == 1, a3, x⟩) 159)).plus nx.late) (by repeat (first | exact Off.base _ _ _ _ (alloc_size' _ _).symm | refine Off.plus ?_ _ | refine Off.alloc ?_ _)) (by omega)).off (b := w.heap.size) (w' := ((w.alloc (.cells (AbV.arr ⟨a0, 0, 1, 0, 0, 0, 0, a2 == 1, a3, x⟩) 159)).alloc (.cells (AbV.arr ⟨a0, 0, 1, 0, 0, 0, 0, a2 == 1, a3, x⟩) 159)).plus nx.late) (by repeat (first | exact Off.base _ _ _ _ rfl | refine Off.plus ?_ _ | refine Off.alloc ?_ _)) (by omega)).less (by omega)).grow grI
  · go_wp2_with fail
    refine bodyPost_ret (results_Ability rfl _ _ _ rfl ?_) rfl ?_
    · go_simp
    refine ⟨⟨a0, 0, 0, 0, 0, 0, 1, a2 == 1, a3, x⟩, by go_simp, ?_, grI⟩
    rw [HA.out]
    refine ⟨rfl, rfl, rfl, rfl, ?_⟩
    exact (((HX.out.less (m := w.heap.size + 1) (by simp only [drew_size', alloc_size']; omega)).off (b := w.heap.size) (w' := (w.alloc (.cells (AbV.arr ⟨a0, 0, 0, 0, 0, 0, 1, a2 == 1, a3, x⟩) 159)).plus nx.late) (by repeat (first | exact Off.base _ _ _ _ rfl | refine Off.plus ?_ _ | refine Off.alloc ?_ _)) (by omega)).less (by omega)).grow grI
  · go_wp2_with fail
    refine bodyPost_ret (results_Ability rfl _ _ _ rfl ?_) rfl ?_
    · go_simp
    refine ⟨⟨a0, 0, 0, 0, 0, 0, 1, a2 == 1, a3, x⟩, by go_simp, ?_, grI⟩
    rw [HA.out]
    refine ⟨rfl, rfl, rfl, rfl, ?_⟩
    exact ((((HX.out.less (m := w.heap.size + 2) (by simp only [drew_size', alloc_size']; omega)).off (b := w.heap.size + 1) (w' := ((w.alloc (.cells (AbV.arr ⟨0, 0, 0, 0, 0, 0, 0, false, 0, ⟨0, 0, 0, 0, .nil⟩⟩) 159)).alloc (.cells (AbV.arr ⟨a0, 0, 0, 0, 0, 0, 1, a2 == 1, a3, x⟩) 159)).plus nx.late) (by repeat (first | exact Off.base _ _ _ _ (alloc_size' _ _).symm | refine Off.plus ?_ _ | refine Off.alloc ?_ _)) (by omega)).off (b := w.heap.size) (w' := ((w.alloc (.cells (AbV.arr ⟨a0, 0, 0, 0, 0, 0, 1, a2 == 1, a3, x⟩) 159)).alloc (.cells (AbV.arr ⟨a0, 0, 0, 0, 0, 0, 1, a2 == 1, a3, x⟩) 159)).plus nx.late) (by repeat (first | exact Off.base _ _ _ _ rfl | refine Off.plus ?_ _ | refine Off.alloc ?_ _)) (by omega)).less (by omega)).grow grI
end Go.Proofs.YtnjdkkgkaafdbaaGreatDoor
namespace Go.Proofs.YtnjdkkgkaafdbaaGreatDoor
open Go Go.RowKit

inductive AbsIs (w : World) (n : Nat) : List AbV → List AbF → Prop
  | nil : AbsIs w n [] []
  | cons {a : AbV} {d : AbF} {l : List AbV} {m : List AbF} : AbIs w n a d → AbsIs w n l m → AbsIs w n (a :: l) (d :: m)
/-- A card stands so in memory, in full. -/
structure CardIs (w : World) (n : Nat) (c : CdV) (d : CardF) : Prop where
  kind : c.kind = d.kind
  col : c.col = d.col
  fast : c.fast = d.fast
  cost : [c.c0, c.c1, c.c2, c.c3, c.c4, c.c5] = d.cost
  pw : c.pw = d.pw
  tf : c.tf = d.tf
  says : c.says = d.says
  abs : ∃ l : List AbV, RowsV w c.abs 14 (l.map AbV.arr) ∧ (l = [] ∨ n ≤ c.abs.b) ∧ AbsIs w n l d.abs
def giveF (n c : Int) : AbF := ⟨6, noCost, true, 0, ⟨15, n, c, 0, []⟩⟩
def oneCost (c : Nat) (p : Int) (k : Int) : List Int := (noCost.set c p).set 5 k
def enterF (e : EfF) : AbF := ⟨2, noCost, false, 0, e⟩
def eight : List Int := [1, 1, 2, 2, 3, 3, 4, 4]
def eightT : List Int := [1, 2, 2, 3, 3, 4, 4, 5]
def eightW : List Int := [1, 2, 4, 8, 16, 32, 64, 128]
/-- The creature of a colour, number k. -/
def beastF (c k : Nat) : CardF :=
  ⟨1, c, false, oneCost c (if 3 < k then 2 else 1) k, gt eight k + (if c = 3 then 1 else 0), gt eightT k + (if c = 4 then 1 else 0), gt eightW k,
    match c with
    | 0 => [enterF ⟨2, (k : Int) + 1, 0, 0, []⟩]
    | 1 => if k % 2 = 0 then [] else [enterF ⟨4, 1, 0, 0, []⟩]
    | 2 => [⟨3, noCost, false, 0, ⟨3, gt eight k, 0, 1, []⟩⟩]
    | 3 => [⟨1, noCost.set 3 1, true, 3, ⟨1, 1, 0, 2, []⟩⟩]
    | _ => [⟨1, noCost.set 4 1, false, 0, ⟨10, 1, 1, 3, []⟩⟩]⟩
def spellF (c k : Nat) : CardF := let r := magicL.getD (5 * k + c) []; ⟨2, c, k % 2 == 0, oneCost c 1 k, 0, 0, 0, [⟨0, noCost, false, gt r 0, effL (r.drop 1)⟩]⟩
def relicF (c k : Nat) : CardF := ⟨3, c, false, oneCost c 1 ((k : Int) + 1), 0, 0, 0, [abL (relicL.getD (5 * k + c) [])]⟩
def specialF (i : Nat) : CardF := let r := specialL.getD i []; ⟨gt r 0, 5, gt r 2 == 1, noCost.set 5 (gt r 1), gt r 3, gt r 4, gt r 5, abL (r.drop 6) :: (if i = 8 then [giveF 2 5] else [])⟩
/-- The document's card. -/
def cardF (n : Nat) : CardF :=
  if n < 5 then ⟨0, n, false, noCost, 0, 0, 0, [giveF 1 n]⟩
  else if n < 10 then ⟨0, 5, false, noCost, 0, 0, 0, [enterF ⟨3, (n : Int) - 4, 0, 0, []⟩, giveF (gt [1, 1, 2, 2, 3] (n - 5)) 5]⟩
  else if n < 50 then beastF ((n - 10) % 5) ((n - 10) / 5)
  else if n < 80 then spellF ((n - 50) % 5) ((n - 50) / 5)
  else if n < 100 then relicF ((n - 80) % 5) ((n - 80) / 5)
  else if n < 112 then specialF (n - 100)
  else ⟨1, 5, false, noCost, gt eight (n - 112), gt eight (n - 112), (n : Int) % 2, []⟩
/-! ### What is asked of a card's numbers, and of its statics -/
def AbF.n (a : AbF) : AbN := if a.wh = 5 then ⟨5, a.ef.n, gt (a.ef.subs.getD 0 []) 0, gt (a.ef.subs.getD 0 []) 1, gt (a.ef.subs.getD 0 []) 2⟩ else ⟨a.wh, 0, 0, 0, 0⟩
def agreeB (d : CardF) (e : CardN) : Bool :=
  d.kind == e.kind && d.pw == e.pw && d.tf == e.tf && d.says == e.says && decide (d.abs.length = e.abs.length) &&
    (List.range d.abs.length).all fun i => let a := d.abs.getD i ⟨0, [], false, 0, ⟨0, 0, 0, 0, []⟩⟩; let b := e.abs.getD i ⟨0, 0, 0, 0, 0⟩
      a.wh == b.wh && (a.wh != 5 || (decide (a.ef.subs.length = 1) && a.ef.n == b.grp && gt (a.ef.subs.getD 0 []) 0 == b.op && gt (a.ef.subs.getD 0 []) 1 == b.n && gt (a.ef.subs.getD 0 []) 2 == b.m))
theorem agree_all : ∀ n, n < 120 → agreeB (cardF n) (cardN n) = true := by decide +kernel
/-- The same of an ability. -/
def agreeA (a : AbF) (b : AbN) : Bool := a.wh == b.wh && (a.wh != 5 || (decide (a.ef.subs.length = 1) && a.ef.n == b.grp && gt (a.ef.subs.getD 0 []) 0 == b.op && gt (a.ef.subs.getD 0 []) 1 == b.n && gt (a.ef.subs.getD 0 []) 2 == b.m))
theorem AbIs.ok {w : World} {n : Nat} {a : AbV} {d : AbF} {e : AbN} (h : AbIs w n a d) (ha : agreeA d e = true) : AbOk w n a e := by
  unfold agreeA at ha
  simp only [Bool.and_eq_true, beq_iff_eq, Bool.or_eq_true, bne_iff_ne, ne_eq, decide_eq_true_eq] at ha
  obtain ⟨h1, h2⟩ := ha
  by_cases h5 : d.wh = 5
  · rcases h2 with h2 | ⟨⟨⟨⟨g1, g2⟩, g3⟩, g4⟩, g5⟩
    · exact absurd h5 h2
    · obtain ⟨r, hr⟩ := List.length_eq_one_iff.1 g1
      rw [hr] at g3 g4 g5
      have hs := h.ef.subs
      rw [hr] at hs
      have hb : 0 < a.ef.subs.n := by rw [hs.len]; simp
      refine AbOk.stat (who := gt r 3) (s := .nil) (h.wh.trans h1) (h.ef.amt.trans g2) (h.ef.low _ (Sl.owns_b hb)) ?_
      rw [← g3, ← g4, ← g5]
      exact hs
  · exact AbOk.of (h.wh.trans h1) (by rw [← h1]; exact h5)
theorem AbsIs.len {w : World} {n : Nat} {l : List AbV} {m : List AbF} (h : AbsIs w n l m) : l.length = m.length := by
  induction h with
  | nil => rfl
  | cons _ _ ih => simp [ih]
theorem AbsIs.ok {w : World} {n : Nat} {l : List AbV} {m : List AbF} (h : AbsIs w n l m) : ∀ e : List AbN, m.length = e.length → (∀ i, i < m.length → agreeA (m.getD i ⟨0, [], false, 0, ⟨0, 0, 0, 0, []⟩⟩) (e.getD i ⟨0, 0, 0, 0, 0⟩) = true) → AbsOk w n l e := by
  induction h with
  | nil => intro e he _; cases e with | nil => exact .nil | cons => simp at he
  | cons ha _ ih =>
    intro e he hag
    cases e with
    | nil => simp at he
    | cons b e =>
      refine .cons (ha.ok (hag 0 (by simp))) (ih e (by simpa using he) (fun i hi => ?_))
      exact hag (i + 1) (by simpa using hi)
theorem CardIs.ok {w : World} {n : Nat} {c : CdV} {k : Nat} (hk : k < 120) (h : CardIs w n c (cardF k)) : CardOk w n c (cardN k) := by
  have ha := agree_all k hk
  unfold agreeB at ha
  simp only [Bool.and_eq_true, beq_iff_eq, decide_eq_true_eq] at ha
  obtain ⟨⟨⟨⟨⟨h1, h2⟩, h3⟩, h4⟩, h5⟩, h6⟩ := ha
  obtain ⟨l, l1, l2, l3⟩ := h.abs
  refine ⟨h.kind.trans h1, h.pw.trans h2, h.tf.trans h3, h.says.trans h4, l, l1, l2, l3.ok _ h5 (fun i hi => ?_)⟩
  exact List.all_eq_true.1 h6 i (List.mem_range.2 hi)
end Go.Proofs.YtnjdkkgkaafdbaaGreatDoor
namespace Go.Proofs.YtnjdkkgkaafdbaaGreatDoor
open Go Go.RowKit

@[go_sem] theorem CdV.set0 (c : CdV) (x : Int) : c.arr.setIfInBounds 0 (.int .i64 x) = CdV.arr { c with kind := x } := rfl
@[go_sem] theorem CdV.set1 (c : CdV) (x : Int) : c.arr.setIfInBounds 1 (.int .i64 x) = CdV.arr { c with col := x } := rfl
@[go_sem] theorem CdV.set2 (c : CdV) (x : Bool) : c.arr.setIfInBounds 2 (.bool x) = CdV.arr { c with fast := x } := rfl
@[go_sem] theorem CdV.set3 (c : CdV) (x : Int) : c.arr.setIfInBounds 3 (.int .i64 x) = CdV.arr { c with c0 := x } := rfl
@[go_sem] theorem CdV.set4 (c : CdV) (x : Int) : c.arr.setIfInBounds 4 (.int .i64 x) = CdV.arr { c with c1 := x } := rfl
@[go_sem] theorem CdV.set5 (c : CdV) (x : Int) : c.arr.setIfInBounds 5 (.int .i64 x) = CdV.arr { c with c2 := x } := rfl
@[go_sem] theorem CdV.set6 (c : CdV) (x : Int) : c.arr.setIfInBounds 6 (.int .i64 x) = CdV.arr { c with c3 := x } := rfl
@[go_sem] theorem CdV.set7 (c : CdV) (x : Int) : c.arr.setIfInBounds 7 (.int .i64 x) = CdV.arr { c with c4 := x } := rfl
@[go_sem] theorem CdV.set8 (c : CdV) (x : Int) : c.arr.setIfInBounds 8 (.int .i64 x) = CdV.arr { c with c5 := x } := rfl
@[go_sem] theorem CdV.get1 (c : CdV) : c.arr[1]? = some (I c.col) := rfl
@[go_sem] theorem CdV.get1' (c : CdV) (h : 1 < c.arr.size) : c.arr[1]'h = I c.col := rfl
@[go_sem] theorem build_card5 (w : World) : (bdRow 111 #[(1, .int .i64 5)]).run Tryz.prog w = .ok (.value (.agg (CdV.arr ⟨0, 5, false, 0, 0, 0, 0, 0, 0, 0, 0, 0, .nil⟩))) w := by kernel_rfl
theorem AbIs.off {b n : Nat} {w w' : World} {a : AbV} {f : AbF} (h : AbIs w n a f) (ho : Off b w w') (hb : b < n) : AbIs w' n a f := ⟨h.wh, h.cost, h.tap, h.tg, h.ef.off ho hb⟩
def Card08 (w w' : World) (r : Ending) (d : CardF) : Prop := ∃ c : CdV, r = .returned (.tuple #[.agg c.arr, .bool true]) ∧ CardIs w' w.heap.size c d ∧ Grow w w'
/-- An effect with nothing within stands so in any world. -/
theorem EfIs.plain (w : World) (n : Nat) (o a b c : Int) : EfIs w n ⟨o, a, b, c, .nil⟩ ⟨o, a, b, c, []⟩ := ⟨rfl, rfl, rfl, rfl, RowsV.nil _ _, fun _ h => h.elim⟩
theorem AbIs.free {w : World} {n : Nat} {a : AbV} {f : AbF} (h : AbIs w n a f) (hs : f.ef.subs = []) (w' : World) : AbIs w' n a f :=
  ⟨h.wh, h.cost, h.tap, h.tg, ⟨h.ef.op, h.ef.amt, h.ef.mor, h.ef.who, by
    have hl := h.ef.subs.len
    rw [hs] at hl ⊢
    exact ⟨hl, h.ef.subs.cap, fun x hx => by simp at hx, fun i j x hx => by simp at hx⟩, h.ef.low⟩⟩
theorem AbIs.turn {w : World} {A A' B B' : Obj} {x : Ext} {n : Nat} {a : AbV} {f : AbF} (h : AbIs (((w.alloc A).alloc B).plus x) n a f) (hn : w.heap.size + 2 ≤ n) : AbIs (((w.alloc A').alloc B').plus x) n a f :=
  (h.off (b := w.heap.size + 1) (w' := ((w.alloc A).alloc B').plus x) (by repeat (first | exact Off.base _ _ _ _ (alloc_size' _ _).symm | refine Off.plus ?_ _ | refine Off.alloc ?_ _)) (by omega)).off (b := w.heap.size) (by repeat (first | exact Off.base _ _ _ _ rfl | refine Off.plus ?_ _ | refine Off.alloc ?_ _)) (by omega)
@[go_sem] theorem cells_5 (a b c d e : Int) (t : TypeId) (fr : Nat × Nat) : Obj.cells #[.int .i64 a, .int .i64 b, .int .i64 c, .int .i64 d, .int .i64 e] t fr = .cells (cellsOf [a, b, c, d, e]) t fr := rfl
@[go_sem] theorem cells_8 (a b c d e f g h : Int) (t : TypeId) (fr : Nat × Nat) : Obj.cells #[.int .i64 a, .int .i64 b, .int .i64 c, .int .i64 d, .int .i64 e, .int .i64 f, .int .i64 g, .int .i64 h] t fr = .cells (cellsOf [a, b, c, d, e, f, g, h]) t fr := rfl
set_option maxRecDepth 100000 in
set_option maxHeartbeats 4000000 in
theorem c08_source (w : World) (n : Nat) (hn : n < 5) : Calls Tryz.prog 111 #[.int .i64 (n : Int)] w fun r w' => Card08 w w' r (cardF n) := by
  have HC : Hid (cardF n = ⟨0, n, false, noCost, 0, 0, 0, [giveF 1 n]⟩) := by rw [Hid, cardF, if_pos hn]
  go_enter Tryz.func111, Tryz.ntmps111
  go_wp2_with (go_at_call 128; refine (give08_any _ _ _).mono ?_; rintro e' w' ⟨a, rfl, ha, nx, rfl⟩; (try simp only [drew_plus] at ha); (try simp only [plus_plus] at ha); have HA := Lib.hid ha; clear ha)
  refine bodyPost_ret (results2_Card rfl _ _ _ rfl ?_) rfl ?_
  · go_simp
  rw [HC.out]
  refine ⟨_, (by go_simp; rfl), ⟨rfl, rfl, rfl, rfl, rfl, rfl, rfl, ?_⟩, grI⟩
  exact ⟨[a], RowsV.one (x := AbV.arr a) (by go_simp) (by go_simp) (by go_simp), .inr (by first | (go_simp; done) | (go_simp; omega) | (simp only [Sl.b]; go_simp; omega)), .cons (((HA.out.turn (by simp only [alloc_size']; omega)).less (by first | (go_simp; done) | (go_simp; omega) | (simp only [Sl.b]; go_simp; omega))).grow grI) .nil⟩
set_option maxRecDepth 100000 in
set_option maxHeartbeats 4000000 in
theorem c08_source5 (w : World) (n : Nat) (hn : n < 5) : Calls Tryz.prog 111 #[.int .i64 ((n : Int) + 5)] w fun r w' => Card08 w w' r (cardF (n + 5)) := by
  have HC : Hid (cardF (n + 5) = ⟨0, 5, false, noCost, 0, 0, 0, [enterF ⟨3, (n : Int) + 1, 0, 0, []⟩, giveF (gt [1, 1, 2, 2, 3] n) 5]⟩) := by
    rw [Hid, cardF, if_neg (by omega), if_pos (by omega), show n + 5 - 5 = n by omega, show ((n + 5 : Nat) : Int) - 4 = n + 1 by omega]
  go_enter Tryz.func111, Tryz.ntmps111
  go_wp2_with (go_at_call 128; refine (give08_any _ _ _).mono ?_; rintro e' w' ⟨a, rfl, ha, nx, rfl⟩; (try simp only [drew_plus] at ha); (try simp only [plus_plus] at ha); have HA := Lib.hid ha; clear ha)
  refine bodyPost_ret (results2_Card rfl _ _ _ rfl ?_) rfl ?_
  · go_simp
  rw [HC.out]
  refine ⟨_, (by go_simp; rfl), ⟨rfl, rfl, rfl, rfl, rfl, rfl, rfl, ?_⟩, grI⟩
  refine ⟨[⟨2, 0, 0, 0, 0, 0, 0, false, 0, ⟨3, (n : Int) + 5 - 4, 0, 0, .nil⟩⟩, a], RowsV.two (x := AbV.arr _) (y := AbV.arr a) (by go_simp) (by go_simp) (by go_simp) (by go_simp), .inr (by first | (go_simp; done) | (go_simp; omega) | (simp only [Sl.b]; go_simp; omega)), .cons ⟨rfl, rfl, rfl, rfl, ?_⟩ (.cons (((HA.out.free rfl _).less (by first | (go_simp; done) | (go_simp; omega) | (simp only [Sl.b]; go_simp; omega)))) .nil)⟩
  rw [show (n : Int) + 1 = (n : Int) + 5 - 4 by omega]
  exact EfIs.plain _ _ _ _ _ _
set_option maxRecDepth 100000 in
set_option maxHeartbeats 4000000 in
theorem c08_token (w : World) (n : Nat) (hn : n < 8) : Calls Tryz.prog 111 #[.int .i64 ((n : Int) + 112)] w fun r w' => Card08 w w' r (cardF (n + 112)) := by
  have HC : Hid (cardF (n + 112) = ⟨1, 5, false, noCost, gt eight n, gt eight n, ((n : Int) + 112) % 2, []⟩) := by
    rw [Hid, cardF, if_neg (by omega), if_neg (by omega), if_neg (by omega), if_neg (by omega), if_neg (by omega), if_neg (by omega), show n + 112 - 112 = n by omega]; rfl
  go_enter Tryz.func111, Tryz.ntmps111
  go_wp2_with fail
  refine bodyPost_ret (results2_Card rfl _ _ _ rfl ?_) rfl ?_
  · go_simp
  rw [HC.out]
  refine ⟨_, (by go_simp; rfl), ⟨rfl, rfl, rfl, rfl, rfl, rfl, rfl, ?_⟩, grI⟩
  exact ⟨[], RowsV.nil _ _, .inl rfl, .nil⟩
theorem eight_in : ∀ k, k < 8 → 0 ≤ gt [1, 1, 2, 2, 3, 3, 4, 4] k ∧ gt [1, 1, 2, 2, 3, 3, 4, 4] k ≤ 4 ∧ 0 ≤ gt [1, 2, 2, 3, 3, 4, 4, 5] k ∧ gt [1, 2, 2, 3, 3, 4, 4, 5] k ≤ 5 := by decide
@[go_sem] theorem build_cost3 (w : World) : (bdRow 108 #[(3, .int .i64 1)]).run Tryz.prog w = .ok (.value (.agg (cellsOf [0, 0, 0, 1, 0, 0]))) w := by kernel_rfl
@[go_sem] theorem build_cost4 (w : World) : (bdRow 108 #[(4, .int .i64 1)]).run Tryz.prog w = .ok (.value (.agg (cellsOf [0, 0, 0, 0, 1, 0]))) w := by kernel_rfl
@[go_sem] theorem build_ab08 (w : World) (c0 c1 c2 c3 c4 c5 : Int) (e : EfV) : (bdRow 159 #[(0, .int .i64 1), (1, .agg (cellsOf [c0, c1, c2, c3, c4, c5])), (4, .agg e.arr)]).run Tryz.prog w = .ok (.value (.agg (AbV.arr ⟨1, c0, c1, c2, c3, c4, c5, false, 0, e⟩))) w := by
  obtain ⟨op, n, m, who, s⟩ := e; cases s <;> kernel_rfl
@[go_sem] theorem build_ab0 (w : World) : (bdRow 159 #[]).run Tryz.prog w = .ok (.value (.agg (AbV.arr ⟨0, 0, 0, 0, 0, 0, 0, false, 0, ⟨0, 0, 0, 0, .nil⟩⟩))) w := by kernel_rfl
end Go.Proofs.YtnjdkkgkaafdbaaGreatDoor
