/- The relics of the other colours. -/
import Derived.Test.YthfalocligkamaaGreatDoorMCard
namespace Go.Proofs.YthfalocligkamaaGreatDoor
open Go Go.RowKit
set_option maxRecDepth 100000 in
set_option maxHeartbeats 2000000 in
theorem zj6 (w : World) : Calls Tryz.prog 175 #[] w fun r w' => Rel4 w' w.heap.size r 1 ∧ Grow w w' := by
 go_enter Tryz.func175, Tryz.ntmps175
 go_wp2_with (go_at_call 152; refine (za1 _ _ _ _ (by decide) (by decide)).mono ?_; rintro e' w' ⟨c0, c1, c2, c3, c4, c5, rfl, hc, nx, rfl⟩; have HC := Lib.hid hc; clear hc)
 go_region_law (first | (refine zak (by rfl) ?_; go_simp; go_at_call 188; refine (za9 _ _ _ _ _).mono ?_; rintro e' w' ⟨s1, rfl, ⟨hR, hb⟩, nx, rfl⟩; (try simp only [zae] at hR); (try simp only [zad] at hR); (try simp only [zae, zad] at hb); (try simp only [zar, zac, zaa] at hb); have HR := Lib.hid (And.intro hR hb); clear hR hb) | (refine zak (by rfl) ?_; go_simp; go_at_call 167; refine (zbb _ _ _ _ _).mono ?_; rintro e' w' ⟨rfl, nx, rfl⟩) | (refine zak (by rfl) ?_; go_simp; go_at_call 166; refine (zbe _ _ _).mono ?_; rintro e' w' ⟨rfl, nx, rfl⟩) | (refine zak (by rfl) ?_; go_simp; go_at_call 168; refine (zay _ _ _ _ _ _ _ _ _ _).mono ?_; rintro e' w' ⟨rfl, nx, rfl⟩) | (refine zak (by rfl) ?_; go_simp; go_at_call 152; refine (za1 _ _ _ _ (by decide) (by decide)).mono ?_; rintro e' w' ⟨e0, e1, e2, e3, e4, e5, rfl, hc, nx, rfl⟩; have HC2 := Lib.hid hc; clear hc))
 all_goals go_wp2_with fail
 all_goals refine bodyPost_ret (zd8 rfl _ _ _ rfl ?_) rfl ?_
 all_goals first | (go_simp; done) | skip
 all_goals
  rename Hid (RowsV _ _ _ [EfV.arr ⟨23, 1, 0, 2, Sl.nil⟩] ∧ _) => hA
  obtain ⟨hA1, hA2⟩ := hA.out
  have hA3 := (Nat.lt_of_lt_of_le (show w.heap.size < _ by simp only [Nat.add_assoc]; exact Nat.lt_add_of_pos_right (by omega)) hA2)
  exact ⟨⟨_, _, _, _, by (go_simp; first | rfl | exact ⟨rfl, rfl, rfl, rfl⟩), AbIs.deep _ _ _ _ _ _ _ _ _ _ _ _ _ _ _ _ (zca 1 0) [[23, 1, 0, 2]] (by rfl) (by rfl) (by rfl) (by rfl) (by rfl) (RowsV.grow (RowsV.off (b := w.heap.size) hA1 (Off.plus (Off.alloc (Off.plus (Off.base w _ _ _ rfl) _) _) _) (Nat.ne_of_gt hA3)) grI) (Nat.le_of_lt hA3), AbIs.plain _ _ _ _ _ _ _ _ _ _ _ _ _ _ _ (zca 1 1) (by rfl) (by rfl) (by rfl) (by rfl) (by rfl), AbIs.plain _ _ _ _ _ _ _ _ _ _ _ _ _ _ _ (zca 1 2) (by rfl) (HC.out.trans zfw) (by rfl) (by rfl) (by rfl), AbIs.plain _ _ _ _ _ _ _ _ _ _ _ _ _ _ _ (zca 1 3) (by rfl) (HC2.out.trans z0r) (by rfl) (by rfl) (by rfl)⟩, grI⟩
set_option maxRecDepth 100000 in
set_option maxHeartbeats 2000000 in
theorem zi0 (w : World) : Calls Tryz.prog 176 #[] w fun r w' => Rel4 w' w.heap.size r 2 ∧ Grow w w' := by
 go_enter Tryz.func176, Tryz.ntmps176
 go_wp2_with (go_at_call 152; refine (za1 _ _ _ _ (by decide) (by decide)).mono ?_; rintro e' w' ⟨c0, c1, c2, c3, c4, c5, rfl, hc, nx, rfl⟩; have HC := Lib.hid hc; clear hc)
 go_region_law (first | (refine zak (by rfl) ?_; go_simp; go_at_call 188; refine (za9 _ _ _ _ _).mono ?_; rintro e' w' ⟨s1, rfl, ⟨hR, hb⟩, nx, rfl⟩; (try simp only [zae] at hR); (try simp only [zad] at hR); (try simp only [zae, zad] at hb); (try simp only [zar, zac, zaa] at hb); have HR := Lib.hid (And.intro hR hb); clear hR hb) | (refine zak (by rfl) ?_; go_simp; go_at_call 167; refine (zbb _ _ _ _ _).mono ?_; rintro e' w' ⟨rfl, nx, rfl⟩) | (refine zak (by rfl) ?_; go_simp; go_at_call 166; refine (zbe _ _ _).mono ?_; rintro e' w' ⟨rfl, nx, rfl⟩) | (refine zak (by rfl) ?_; go_simp; go_at_call 168; refine (zay _ _ _ _ _ _ _ _ _ _).mono ?_; rintro e' w' ⟨rfl, nx, rfl⟩) | (refine zak (by rfl) ?_; go_simp; go_at_call 152; refine (za1 _ _ _ _ (by decide) (by decide)).mono ?_; rintro e' w' ⟨e0, e1, e2, e3, e4, e5, rfl, hc, nx, rfl⟩; have HC2 := Lib.hid hc; clear hc))
 all_goals go_wp2_with fail
 all_goals refine bodyPost_ret (zd8 rfl _ _ _ rfl ?_) rfl ?_
 all_goals first | (go_simp; done) | skip
 all_goals
  rename Hid (RowsV _ _ _ [EfV.arr ⟨10, -1, 0, 2, Sl.nil⟩] ∧ _) => hA
  obtain ⟨hA1, hA2⟩ := hA.out
  have hA3 := (Nat.lt_of_lt_of_le (show w.heap.size < _ by simp only [Nat.add_assoc]; exact Nat.lt_add_of_pos_right (by omega)) hA2)
  rename Hid (RowsV _ _ _ [EfV.arr ⟨24, 1, 1, 2, Sl.nil⟩] ∧ _) => hB
  obtain ⟨hB1, hB2⟩ := hB.out
  have hB3 := (Nat.lt_of_lt_of_le (show w.heap.size < _ by simp only [Nat.add_assoc]; exact Nat.lt_add_of_pos_right (by omega)) hB2)
  exact ⟨⟨_, _, _, _, by (go_simp; first | rfl | exact ⟨rfl, rfl, rfl, rfl⟩), AbIs.deep _ _ _ _ _ _ _ _ _ _ _ _ _ _ _ _ (zca 2 0) [[10, -1, 0, 2]] (by rfl) (by rfl) (by rfl) (by rfl) (by rfl) (RowsV.grow (RowsV.off (b := w.heap.size) hA1 (Off.plus (Off.alloc (Off.plus (Off.base w _ _ _ rfl) _) _) _) (Nat.ne_of_gt hA3)) grI) (Nat.le_of_lt hA3), AbIs.plain _ _ _ _ _ _ _ _ _ _ _ _ _ _ _ (zca 2 1) (by rfl) (by rfl) (by rfl) (by rfl) (by rfl), AbIs.plain _ _ _ _ _ _ _ _ _ _ _ _ _ _ _ (zca 2 2) (by rfl) (HC.out.trans zfw) (by rfl) (by rfl) (by rfl), AbIs.deep _ _ _ _ _ _ _ _ _ _ _ _ _ _ _ _ (zca 2 3) [[24, 1, 1, 2]] (by rfl) (by rfl) (by rfl) (by rfl) (by rfl) (RowsV.grow (RowsV.off (b := w.heap.size) hB1 (Off.plus (Off.alloc (Off.plus (Off.base w _ _ _ rfl) _) _) _) (Nat.ne_of_gt hB3)) grI) (Nat.le_of_lt hB3)⟩, grI⟩
set_option maxRecDepth 100000 in
set_option maxHeartbeats 2000000 in
theorem zl3 (w : World) : Calls Tryz.prog 177 #[] w fun r w' => Rel4 w' w.heap.size r 3 ∧ Grow w w' := by
 go_enter Tryz.func177, Tryz.ntmps177
 go_wp2_with (go_at_call 152; refine (za1 _ _ _ _ (by decide) (by decide)).mono ?_; rintro e' w' ⟨c0, c1, c2, c3, c4, c5, rfl, hc, nx, rfl⟩; have HC := Lib.hid hc; clear hc)
 go_region_law (first | (refine zak (by rfl) ?_; go_simp; go_at_call 188; refine (za9 _ _ _ _ _).mono ?_; rintro e' w' ⟨s1, rfl, ⟨hR, hb⟩, nx, rfl⟩; (try simp only [zae] at hR); (try simp only [zad] at hR); (try simp only [zae, zad] at hb); (try simp only [zar, zac, zaa] at hb); have HR := Lib.hid (And.intro hR hb); clear hR hb) | (refine zak (by rfl) ?_; go_simp; go_at_call 167; refine (zbb _ _ _ _ _).mono ?_; rintro e' w' ⟨rfl, nx, rfl⟩) | (refine zak (by rfl) ?_; go_simp; go_at_call 166; refine (zbe _ _ _).mono ?_; rintro e' w' ⟨rfl, nx, rfl⟩) | (refine zak (by rfl) ?_; go_simp; go_at_call 168; refine (zay _ _ _ _ _ _ _ _ _ _).mono ?_; rintro e' w' ⟨rfl, nx, rfl⟩) | (refine zak (by rfl) ?_; go_simp; go_at_call 152; refine (za1 _ _ _ _ (by decide) (by decide)).mono ?_; rintro e' w' ⟨e0, e1, e2, e3, e4, e5, rfl, hc, nx, rfl⟩; have HC2 := Lib.hid hc; clear hc))
 all_goals go_wp2_with fail
 all_goals refine bodyPost_ret (zd8 rfl _ _ _ rfl ?_) rfl ?_
 all_goals first | (go_simp; done) | skip
 all_goals
  rename Hid (RowsV _ _ _ [EfV.arr ⟨10, 1, 0, 2, Sl.nil⟩] ∧ _) => hA
  obtain ⟨hA1, hA2⟩ := hA.out
  have hA3 := (Nat.lt_of_lt_of_le (show w.heap.size < _ by simp only [Nat.add_assoc]; exact Nat.lt_add_of_pos_right (by omega)) hA2)
  exact ⟨⟨_, _, _, _, by (go_simp; first | rfl | exact ⟨rfl, rfl, rfl, rfl⟩), AbIs.deep _ _ _ _ _ _ _ _ _ _ _ _ _ _ _ _ (zca 3 0) [[10, 1, 0, 2]] (by rfl) (by rfl) (by rfl) (by rfl) (by rfl) (RowsV.grow (RowsV.off (b := w.heap.size) hA1 (Off.plus (Off.alloc (Off.plus (Off.base w _ _ _ rfl) _) _) _) (Nat.ne_of_gt hA3)) grI) (Nat.le_of_lt hA3), AbIs.plain _ _ _ _ _ _ _ _ _ _ _ _ _ _ _ (zca 3 1) (by rfl) (by rfl) (by rfl) (by rfl) (by rfl), AbIs.plain _ _ _ _ _ _ _ _ _ _ _ _ _ _ _ (zca 3 2) (by rfl) (HC.out.trans zfw) (by rfl) (by rfl) (by rfl), AbIs.plain _ _ _ _ _ _ _ _ _ _ _ _ _ _ _ (zca 3 3) (by rfl) (by rfl) (by rfl) (by rfl) (by rfl)⟩, grI⟩
set_option maxRecDepth 100000 in
set_option maxHeartbeats 2000000 in
theorem zjg (w : World) : Calls Tryz.prog 178 #[] w fun r w' => Rel4 w' w.heap.size r 4 ∧ Grow w w' := by
 go_enter Tryz.func178, Tryz.ntmps178
 go_wp2_with (go_at_call 152; refine (za1 _ _ _ _ (by decide) (by decide)).mono ?_; rintro e' w' ⟨c0, c1, c2, c3, c4, c5, rfl, hc, nx, rfl⟩; have HC := Lib.hid hc; clear hc)
 go_region_law (first | (refine zak (by rfl) ?_; go_simp; go_at_call 188; refine (za9 _ _ _ _ _).mono ?_; rintro e' w' ⟨s1, rfl, ⟨hR, hb⟩, nx, rfl⟩; (try simp only [zae] at hR); (try simp only [zad] at hR); (try simp only [zae, zad] at hb); (try simp only [zar, zac, zaa] at hb); have HR := Lib.hid (And.intro hR hb); clear hR hb) | (refine zak (by rfl) ?_; go_simp; go_at_call 167; refine (zbb _ _ _ _ _).mono ?_; rintro e' w' ⟨rfl, nx, rfl⟩) | (refine zak (by rfl) ?_; go_simp; go_at_call 166; refine (zbe _ _ _).mono ?_; rintro e' w' ⟨rfl, nx, rfl⟩) | (refine zak (by rfl) ?_; go_simp; go_at_call 168; refine (zay _ _ _ _ _ _ _ _ _ _).mono ?_; rintro e' w' ⟨rfl, nx, rfl⟩) | (refine zak (by rfl) ?_; go_simp; go_at_call 152; refine (za1 _ _ _ _ (by decide) (by decide)).mono ?_; rintro e' w' ⟨e0, e1, e2, e3, e4, e5, rfl, hc, nx, rfl⟩; have HC2 := Lib.hid hc; clear hc))
 all_goals go_wp2_with fail
 all_goals refine bodyPost_ret (zd8 rfl _ _ _ rfl ?_) rfl ?_
 all_goals first | (go_simp; done) | skip
 all_goals
  rename Hid (RowsV _ _ _ [EfV.arr ⟨10, 1, 1, 2, Sl.nil⟩] ∧ _) => hA
  obtain ⟨hA1, hA2⟩ := hA.out
  have hA3 := (Nat.lt_of_lt_of_le (show w.heap.size < _ by simp only [Nat.add_assoc]; exact Nat.lt_add_of_pos_right (by omega)) hA2)
  exact ⟨⟨_, _, _, _, by (go_simp; first | rfl | exact ⟨rfl, rfl, rfl, rfl⟩), AbIs.deep _ _ _ _ _ _ _ _ _ _ _ _ _ _ _ _ (zca 4 0) [[10, 1, 1, 2]] (by rfl) (by rfl) (by rfl) (by rfl) (by rfl) (RowsV.grow (RowsV.off (b := w.heap.size) hA1 (Off.plus (Off.alloc (Off.plus (Off.base w _ _ _ rfl) _) _) _) (Nat.ne_of_gt hA3)) grI) (Nat.le_of_lt hA3), AbIs.plain _ _ _ _ _ _ _ _ _ _ _ _ _ _ _ (zca 4 1) (by rfl) (by rfl) (by rfl) (by rfl) (by rfl), AbIs.plain _ _ _ _ _ _ _ _ _ _ _ _ _ _ _ (zca 4 2) (by rfl) (HC.out.trans zfw) (by rfl) (by rfl) (by rfl), AbIs.plain _ _ _ _ _ _ _ _ _ _ _ _ _ _ _ (zca 4 3) (by rfl) (by rfl) (by rfl) (by rfl) (by rfl)⟩, grI⟩
end Go.Proofs.YthfalocligkamaaGreatDoor
namespace Go.Proofs.YthfalocligkamaaGreatDoor
open Go Go.RowKit
@[go_sem ↓] theorem yak (ρ : Operand → Value) (dst : Option Tmp) (parts : Array (Nat × Operand)) (ty : TypeId) (pos : String) (after : Array Edge) (guard : Option (Nat × Bool)) :
 execOp ρ { dst, op := .build 185 parts, type := ty, pos, after, guard } = za0 185 (parts.map fun (i, x) => (i, ρ x)) := rfl
@[go_sem ↓] theorem ye2 (ρ : Operand → Value) (dst : Option Tmp) (x : Operand) (ty : TypeId) (pos : String) (after : Array Edge) (guard : Option (Nat × Bool)) :
 execOp ρ { dst, op := .load 185 x, type := ty, pos, after, guard } = za3 185 (ρ x) := rfl
@[go_sem ↓] theorem ydu (ρ : Operand → Value) (dst : Option Tmp) (x y : Operand) (ty : TypeId) (pos : String) (after : Array Edge) (guard : Option (Nat × Bool)) :
 execOp ρ { dst, op := .store 185 x y, type := ty, pos, after, guard } = zaz 185 (ρ x) (ρ y) := rfl
@[go_sem] theorem znx (w : World) (b o : Nat) (h : o + 84 ≤ (w.blk b).size) : (za3 185 (.pointer (some ⟨b, o, none⟩))).run Tryz.prog w = .ok (.value (.agg (sub (w.blk b) o 84))) w :=
 zaw w b o 185 84 (by kernel_rfl) (by kernel_rfl) h (by omega)
@[go_sem] theorem z3a (w : World) (b : Nat) (cs : Array Value) (h : (w.blk b).size = 84) (hc : cs.size = 84) (h1 : zai cs = true) (hf : w.free b = true) : (zaz 185 (.pointer (some ⟨b, 0, none⟩)) (.agg cs)).run Tryz.prog w = .ok .skip (w.setRow b cs) :=
 zax w b 185 84 _ (by kernel_rfl) h hc (by omega) hf h1
theorem zpd (w : World) (b : Nat) (h : (w.blk b).size = 84) : (loadVar 185 ⟨b, 0, none⟩).run Tryz.prog w = .ok (.agg (sub (w.blk b) 0 84)) w := by
 have := znx w b 0 (by omega)
 unfold za3 at this
 rw [Sem.run_bind] at this
 simp only [Instr.loadAt, Instr.sureAddr, Sem.run_bind, Sem.run_pure, Result.andThen_ok] at this
 cases hr : (loadVar 185 ⟨b, 0, none⟩).run Tryz.prog w with
 | ok v w' => rw [hr] at this; simp at this; rw [this.1, this.2]
 | halt x w' => rw [hr] at this; simp [Result.andThen] at this
theorem zd9 {fn : Func} {p : Tmp} (h : fn.results = #[.cell p 185]) (tmps : Array Value) (w : World) (b : Nat) (hp : tmps.getD p undef = .pointer (some ⟨b, 0, none⟩)) (h1 : (w.blk b).size = 84) :
 (results fn tmps).run Tryz.prog w = .ok (.agg (sub (w.blk b) 0 84)) w := by
 unfold results
 rw [h]
 have e1 := zpd w b h1
 have hp' : tmps[p]?.getD undef = .pointer (some ⟨b, 0, none⟩) := by simpa using hp
 simp [asAddr, hp', e1]
@[go_sem] theorem zqd (a b c d e f : AbV) : (zd0 [a.arr, b.arr, c.arr, d.arr, e.arr, f.arr]).size = 84 := by simp [zd0, AbV.arr]
@[go_sem] theorem z6b (a b c d e f : AbV) : zai (zd0 [a.arr, b.arr, c.arr, d.arr, e.arr, f.arr]) = true := by
 have h1 := AbV.one a; have h2 := AbV.one b; have h3 := AbV.one c; have h4 := AbV.one d; have h5 := AbV.one e; have h6 := AbV.one f
 unfold zai at *
 simp [zd0, h1, h2, h3, h4, h5, h6]
@[go_sem] theorem yf8 (a b c d e f : AbV) : sub (zd0 [a.arr, b.arr, c.arr, d.arr, e.arr, f.arr]) 0 84 = zd0 [a.arr, b.arr, c.arr, d.arr, e.arr, f.arr] := by
 unfold sub; rw [Nat.zero_add, ← zqd a b c d e f, Array.extract_size]
theorem zmd (w : World) (a b c d e f : AbV) : (za0 185 #[(0, .agg a.arr), (1, .agg b.arr), (2, .agg c.arr), (3, .agg d.arr), (4, .agg e.arr), (5, .agg f.arr)]).run Tryz.prog w = .ok (.value (.agg (zd0 [a.arr, b.arr, c.arr, d.arr, e.arr, f.arr]))) w := by
 obtain ⟨a0, a1, a2, a3, a4, a5, a6, a7, a8, ⟨a9, a10, a11, a12, sa⟩⟩ := a
 obtain ⟨b0, b1, b2, b3, b4, b5, b6, b7, b8, ⟨b9, b10, b11, b12, sb⟩⟩ := b
 obtain ⟨c0, c1, c2, c3, c4, c5, c6, c7, c8, ⟨c9, c10, c11, c12, sc⟩⟩ := c
 obtain ⟨d0, d1, d2, d3, d4, d5, d6, d7, d8, ⟨d9, d10, d11, d12, sd⟩⟩ := d
 obtain ⟨e0, e1, e2, e3, e4, e5, e6, e7, e8, ⟨e9, e10, e11, e12, se⟩⟩ := e
 obtain ⟨f0, f1, f2, f3, f4, f5, f6, f7, f8, ⟨f9, f10, f11, f12, sf⟩⟩ := f
 cases sa <;> cases sb <;> cases sc <;> cases sd <;> cases se <;> cases sf <;> kernel_rfl
attribute [go_sem] zmd
@[go_sem] theorem zq7 (w : World) (a b : Int) (k o n c : Nat) : (za0 32 #[(0, .int .i64 a), (2, .int .i64 b), (4, .slice (some ⟨k, o, none⟩) n c)]).run Tryz.prog w = .ok (.value (.agg (EfV.arr ⟨a, 0, b, 0, .mk k o n c⟩))) w := by kernel_rfl
theorem zhk (w : World) (b o n c : Nat) : Calls Tryz.prog 189 #[.slice (some ⟨b, o, none⟩) n c] w fun r w' => r = .returned (.agg (EfV.arr ⟨21, 0, 0, 0, .mk b o n c⟩)) ∧ Grow w w' := z8g w (.mk b o n c)
def Spell6 (w : World) (n : Nat) (r : Ending) (k : Nat) : Prop := ∃ a b c d e f : AbV, r = .returned (.agg (zd0 [a.arr, b.arr, c.arr, d.arr, e.arr, f.arr])) ∧ AbIs w n a (zbl k 0) ∧ AbIs w n b (zbl k 1) ∧ AbIs w n c (zbl k 2) ∧ AbIs w n d (zbl k 3) ∧ AbIs w n e (zbl k 4) ∧ AbIs w n f (zbl k 5)
set_option maxRecDepth 100000 in
set_option maxHeartbeats 4000000 in
theorem zj4 (w : World) : Calls Tryz.prog 169 #[] w fun r w' => Spell6 w' w.heap.size r 0 ∧ Grow w w' := by
 go_enter Tryz.func169, Tryz.ntmps169
 go_wp2_with (first | (go_at_call 167; refine (zbb _ _ _ _ _).mono ?_; rintro e' w' ⟨rfl, nx, rfl⟩) | (go_at_call 187; refine (zci _ _ _).mono ?_; rintro e' w' ⟨rfl, nx, rfl⟩) | (go_at_call 188; refine (za9 _ _ _ _ _).mono ?_; rintro e' w' ⟨s1, rfl, ⟨hR, hb⟩, nx, rfl⟩; (try simp only [zae] at hR); (try simp only [zad] at hR); have HR := Lib.hid (And.intro hR hb); clear hR hb) | (go_at_call 189; refine (zhk _ _ _ _ _).mono ?_; rintro e' w' ⟨rfl, nx, rfl⟩))
 refine bodyPost_ret (zd9 rfl _ _ _ rfl ?_) rfl ?_
 · go_simp
 · exact ⟨⟨_, _, _, _, _, _, by (go_simp; first | rfl | exact ⟨rfl, rfl, rfl, rfl, rfl, rfl⟩), AbIs.plain _ _ _ _ _ _ _ _ _ _ _ _ _ _ _ (zbl 0 0) (by rfl) (by rfl) (by rfl) (by rfl) (by rfl), AbIs.plain _ _ _ _ _ _ _ _ _ _ _ _ _ _ _ (zbl 0 1) (by rfl) (by rfl) (by rfl) (by rfl) (by rfl), AbIs.deep _ _ _ _ _ _ _ _ _ _ _ _ _ _ _ _ (zbl 0 2) [[10, 1, 1, 2]] (by rfl) (by rfl) (by rfl) (by rfl) (by rfl) (RowsV.grow (RowsV.off (b := w.heap.size) HR.out.1 (Off.plus (Off.base w _ _ _ rfl) _) (Nat.ne_of_gt (Nat.lt_of_lt_of_le (by first | (go_simp; done) | (go_simp; omega) | (simp only [Sl.b]; go_simp; omega)) HR.out.2))) grI) (Nat.le_trans (by first | (go_simp; done) | (go_simp; omega) | (simp only [Sl.b]; go_simp; omega)) HR.out.2), AbIs.plain _ _ _ _ _ _ _ _ _ _ _ _ _ _ _ (zbl 0 3) (by rfl) (by rfl) (by rfl) (by rfl) (by rfl), AbIs.deep _ _ _ _ _ _ _ _ _ _ _ _ _ _ _ _ (zbl 0 4) [[2, 2, 0, 0], [4, 1, 0, 0]] (by rfl) (by rfl) (by rfl) (by rfl) (by rfl) (RowsV.two (x := EfV.arr _) (y := EfV.arr _) (by go_simp) (by go_simp; rfl) (by go_simp) (by go_simp)) (by first | (go_simp; done) | (go_simp; omega) | (simp only [Sl.b]; go_simp; omega)), AbIs.deep _ _ _ _ _ _ _ _ _ _ _ _ _ _ _ _ (zbl 0 5) [[2, 8, 0, 0], [4, 1, 0, 0]] (by rfl) (by rfl) (by rfl) (by rfl) (by rfl) (RowsV.two (x := EfV.arr _) (y := EfV.arr _) (by go_simp) (by go_simp; rfl) (by go_simp) (by go_simp)) (by first | (go_simp; done) | (go_simp; omega) | (simp only [Sl.b]; go_simp; omega))⟩, grI⟩
set_option maxRecDepth 100000 in
set_option maxHeartbeats 4000000 in
theorem zj7 (w : World) : Calls Tryz.prog 170 #[] w fun r w' => Spell6 w' w.heap.size r 1 ∧ Grow w w' := by
 go_enter Tryz.func170, Tryz.ntmps170
 go_wp2_with (first | (go_at_call 167; refine (zbb _ _ _ _ _).mono ?_; rintro e' w' ⟨rfl, nx, rfl⟩) | (go_at_call 187; refine (zci _ _ _).mono ?_; rintro e' w' ⟨rfl, nx, rfl⟩) | (go_at_call 188; refine (za9 _ _ _ _ _).mono ?_; rintro e' w' ⟨s1, rfl, ⟨hR, hb⟩, nx, rfl⟩; (try simp only [zae] at hR); (try simp only [zad] at hR); have HR := Lib.hid (And.intro hR hb); clear hR hb) | (go_at_call 189; refine (zhk _ _ _ _ _).mono ?_; rintro e' w' ⟨rfl, nx, rfl⟩))
 refine bodyPost_ret (zd9 rfl _ _ _ rfl ?_) rfl ?_
 · go_simp
 · exact ⟨⟨_, _, _, _, _, _, by (go_simp; first | rfl | exact ⟨rfl, rfl, rfl, rfl, rfl, rfl⟩), AbIs.plain _ _ _ _ _ _ _ _ _ _ _ _ _ _ _ (zbl 1 0) (by rfl) (by rfl) (by rfl) (by rfl) (by rfl), AbIs.plain _ _ _ _ _ _ _ _ _ _ _ _ _ _ _ (zbl 1 1) (by rfl) (by rfl) (by rfl) (by rfl) (by rfl), AbIs.plain _ _ _ _ _ _ _ _ _ _ _ _ _ _ _ (zbl 1 2) (by rfl) (by rfl) (by rfl) (by rfl) (by rfl), AbIs.plain _ _ _ _ _ _ _ _ _ _ _ _ _ _ _ (zbl 1 3) (by rfl) (by rfl) (by rfl) (by rfl) (by rfl), AbIs.plain _ _ _ _ _ _ _ _ _ _ _ _ _ _ _ (zbl 1 4) (by rfl) (by rfl) (by rfl) (by rfl) (by rfl), AbIs.deep _ _ _ _ _ _ _ _ _ _ _ _ _ _ _ _ (zbl 1 5) [[4, 3, 0, 0], [19, 1, 0, 0]] (by rfl) (by rfl) (by rfl) (by rfl) (by rfl) (RowsV.two (x := EfV.arr _) (y := EfV.arr _) (by go_simp) (by go_simp; rfl) (by go_simp) (by go_simp)) (by first | (go_simp; done) | (go_simp; omega) | (simp only [Sl.b]; go_simp; omega))⟩, grI⟩
set_option maxRecDepth 100000 in
set_option maxHeartbeats 4000000 in
theorem zi1 (w : World) : Calls Tryz.prog 171 #[] w fun r w' => Spell6 w' w.heap.size r 2 ∧ Grow w w' := by
 go_enter Tryz.func171, Tryz.ntmps171
 go_wp2_with (first | (go_at_call 167; refine (zbb _ _ _ _ _).mono ?_; rintro e' w' ⟨rfl, nx, rfl⟩) | (go_at_call 187; refine (zci _ _ _).mono ?_; rintro e' w' ⟨rfl, nx, rfl⟩) | (go_at_call 188; refine (za9 _ _ _ _ _).mono ?_; rintro e' w' ⟨s1, rfl, ⟨hR, hb⟩, nx, rfl⟩; (try simp only [zae] at hR); (try simp only [zad] at hR); have HR := Lib.hid (And.intro hR hb); clear hR hb) | (go_at_call 189; refine (zhk _ _ _ _ _).mono ?_; rintro e' w' ⟨rfl, nx, rfl⟩))
 refine bodyPost_ret (zd9 rfl _ _ _ rfl ?_) rfl ?_
 · go_simp
 · exact ⟨⟨_, _, _, _, _, _, by (go_simp; first | rfl | exact ⟨rfl, rfl, rfl, rfl, rfl, rfl⟩), AbIs.plain _ _ _ _ _ _ _ _ _ _ _ _ _ _ _ (zbl 2 0) (by rfl) (by rfl) (by rfl) (by rfl) (by rfl), AbIs.plain _ _ _ _ _ _ _ _ _ _ _ _ _ _ _ (zbl 2 1) (by rfl) (by rfl) (by rfl) (by rfl) (by rfl), AbIs.plain _ _ _ _ _ _ _ _ _ _ _ _ _ _ _ (zbl 2 2) (by rfl) (by rfl) (by rfl) (by rfl) (by rfl), AbIs.deep _ _ _ _ _ _ _ _ _ _ _ _ _ _ _ _ (zbl 2 3) [[3, 2, 0, 1], [2, 2, 0, 0]] (by rfl) (by rfl) (by rfl) (by rfl) (by rfl) (RowsV.two (x := EfV.arr _) (y := EfV.arr _) (by go_simp) (by go_simp; rfl) (by go_simp) (by go_simp)) (by first | (go_simp; done) | (go_simp; omega) | (simp only [Sl.b]; go_simp; omega)), AbIs.plain _ _ _ _ _ _ _ _ _ _ _ _ _ _ _ (zbl 2 4) (by rfl) (by rfl) (by rfl) (by rfl) (by rfl), AbIs.plain _ _ _ _ _ _ _ _ _ _ _ _ _ _ _ (zbl 2 5) (by rfl) (by rfl) (by rfl) (by rfl) (by rfl)⟩, grI⟩
set_option maxRecDepth 100000 in
set_option maxHeartbeats 4000000 in
theorem zl4 (w : World) : Calls Tryz.prog 172 #[] w fun r w' => Spell6 w' w.heap.size r 3 ∧ Grow w w' := by
 go_enter Tryz.func172, Tryz.ntmps172
 go_wp2_with (first | (go_at_call 167; refine (zbb _ _ _ _ _).mono ?_; rintro e' w' ⟨rfl, nx, rfl⟩) | (go_at_call 187; refine (zci _ _ _).mono ?_; rintro e' w' ⟨rfl, nx, rfl⟩) | (go_at_call 188; refine (za9 _ _ _ _ _).mono ?_; rintro e' w' ⟨s1, rfl, ⟨hR, hb⟩, nx, rfl⟩; (try simp only [zae] at hR); (try simp only [zad] at hR); have HR := Lib.hid (And.intro hR hb); clear hR hb) | (go_at_call 189; refine (zhk _ _ _ _ _).mono ?_; rintro e' w' ⟨rfl, nx, rfl⟩))
 refine bodyPost_ret (zd9 rfl _ _ _ rfl ?_) rfl ?_
 · go_simp
 · exact ⟨⟨_, _, _, _, _, _, by (go_simp; first | rfl | exact ⟨rfl, rfl, rfl, rfl, rfl, rfl⟩), AbIs.plain _ _ _ _ _ _ _ _ _ _ _ _ _ _ _ (zbl 3 0) (by rfl) (by rfl) (by rfl) (by rfl) (by rfl), AbIs.plain _ _ _ _ _ _ _ _ _ _ _ _ _ _ _ (zbl 3 1) (by rfl) (by rfl) (by rfl) (by rfl) (by rfl), AbIs.plain _ _ _ _ _ _ _ _ _ _ _ _ _ _ _ (zbl 3 2) (by rfl) (by rfl) (by rfl) (by rfl) (by rfl), AbIs.deep _ _ _ _ _ _ _ _ _ _ _ _ _ _ _ _ (zbl 3 3) [[1, 2, 0, 2]] (by rfl) (by rfl) (by rfl) (by rfl) (by rfl) (RowsV.grow (RowsV.off (b := w.heap.size) HR.out.1 (Off.plus (Off.base w _ _ _ rfl) _) (Nat.ne_of_gt (Nat.lt_of_lt_of_le (by first | (go_simp; done) | (go_simp; omega) | (simp only [Sl.b]; go_simp; omega)) HR.out.2))) grI) (Nat.le_trans (by first | (go_simp; done) | (go_simp; omega) | (simp only [Sl.b]; go_simp; omega)) HR.out.2), AbIs.plain _ _ _ _ _ _ _ _ _ _ _ _ _ _ _ (zbl 3 4) (by rfl) (by rfl) (by rfl) (by rfl) (by rfl), AbIs.deep _ _ _ _ _ _ _ _ _ _ _ _ _ _ _ _ (zbl 3 5) [[1, 2, 0, 2], [4, 1, 0, 0]] (by rfl) (by rfl) (by rfl) (by rfl) (by rfl) (RowsV.two (x := EfV.arr _) (y := EfV.arr _) (by go_simp) (by go_simp; rfl) (by go_simp) (by go_simp)) (by first | (go_simp; done) | (go_simp; omega) | (simp only [Sl.b]; go_simp; omega))⟩, grI⟩
set_option maxRecDepth 100000 in
set_option maxHeartbeats 4000000 in
theorem zjh (w : World) : Calls Tryz.prog 173 #[] w fun r w' => Spell6 w' w.heap.size r 4 ∧ Grow w w' := by
 go_enter Tryz.func173, Tryz.ntmps173
 go_wp2_with (first | (go_at_call 167; refine (zbb _ _ _ _ _).mono ?_; rintro e' w' ⟨rfl, nx, rfl⟩) | (go_at_call 187; refine (zci _ _ _).mono ?_; rintro e' w' ⟨rfl, nx, rfl⟩) | (go_at_call 188; refine (za9 _ _ _ _ _).mono ?_; rintro e' w' ⟨s1, rfl, ⟨hR, hb⟩, nx, rfl⟩; (try simp only [zae] at hR); (try simp only [zad] at hR); have HR := Lib.hid (And.intro hR hb); clear hR hb) | (go_at_call 189; refine (zhk _ _ _ _ _).mono ?_; rintro e' w' ⟨rfl, nx, rfl⟩))
 refine bodyPost_ret (zd9 rfl _ _ _ rfl ?_) rfl ?_
 · go_simp
 · exact ⟨⟨_, _, _, _, _, _, by (go_simp; first | rfl | exact ⟨rfl, rfl, rfl, rfl, rfl, rfl⟩), AbIs.plain _ _ _ _ _ _ _ _ _ _ _ _ _ _ _ (zbl 4 0) (by rfl) (by rfl) (by rfl) (by rfl) (by rfl), AbIs.plain _ _ _ _ _ _ _ _ _ _ _ _ _ _ _ (zbl 4 1) (by rfl) (by rfl) (by rfl) (by rfl) (by rfl), AbIs.plain _ _ _ _ _ _ _ _ _ _ _ _ _ _ _ (zbl 4 2) (by rfl) (by rfl) (by rfl) (by rfl) (by rfl), AbIs.plain _ _ _ _ _ _ _ _ _ _ _ _ _ _ _ (zbl 4 3) (by rfl) (by rfl) (by rfl) (by rfl) (by rfl), AbIs.plain _ _ _ _ _ _ _ _ _ _ _ _ _ _ _ (zbl 4 4) (by rfl) (by rfl) (by rfl) (by rfl) (by rfl), AbIs.deep _ _ _ _ _ _ _ _ _ _ _ _ _ _ _ _ (zbl 4 5) [[11, 1, 0, 2]] (by rfl) (by rfl) (by rfl) (by rfl) (by rfl) (RowsV.grow (RowsV.off (b := w.heap.size) HR.out.1 (Off.plus (Off.base w _ _ _ rfl) _) (Nat.ne_of_gt (Nat.lt_of_lt_of_le (by first | (go_simp; done) | (go_simp; omega) | (simp only [Sl.b]; go_simp; omega)) HR.out.2))) grI) (Nat.le_trans (by first | (go_simp; done) | (go_simp; omega) | (simp only [Sl.b]; go_simp; omega)) HR.out.2)⟩, grI⟩
end Go.Proofs.YthfalocligkamaaGreatDoor
namespace Go.Proofs.YthfalocligkamaaGreatDoor
open Go Go.RowKit
def RelRow (w : World) (n : Nat) (r : Array Value) (c : Nat) : Prop := r.size = 56 ∧ zai r = true ∧ ∀ k, k < 4 → ∃ a : AbV, sub r (k * 14) 14 = a.arr ∧ AbIs w n a (zca c k)
theorem RelRow.to {b : Nat} {w w1 w2 : World} {m n : Nat} {r : Array Value} {c : Nat} (h : RelRow w n r c) (g : Grow w w1) (ho : Off b w1 w2) (hb : b < n) (hm : m ≤ n) : RelRow w2 m r c :=
 ⟨h.1, h.2.1, fun k hk => by obtain ⟨a, h1, h2⟩ := h.2.2 k hk; exact ⟨a, h1, ((h2.grow g).off ho hb).less hm⟩⟩
theorem Rel4.row {w : World} {n : Nat} {e : Ending} {c : Nat} (h : Rel4 w n e c) : ∃ r, e = .returned (.agg r) ∧ RelRow w n r c := by
 obtain ⟨a0, a1, a2, a3, rfl, h0, h1, h2, h3⟩ := h
 have hs := zfv 14 [a0.arr, a1.arr, a2.arr, a3.arr] (by simp [AbV.size])
 refine ⟨_, rfl, zqc _ _ _ _, z6a _ _ _ _, fun k hk => ?_⟩
 have : k = 0 ∨ k = 1 ∨ k = 2 ∨ k = 3 := by omega
 rcases this with rfl | rfl | rfl | rfl
 · exact ⟨a0, hs 0 (by simp), h0⟩
 · exact ⟨a1, hs 1 (by simp), h1⟩
 · exact ⟨a2, hs 2 (by simp), h2⟩
 · exact ⟨a3, hs 3 (by simp), h3⟩
def SpRow (w : World) (n : Nat) (r : Array Value) (c : Nat) : Prop := r.size = 84 ∧ zai r = true ∧ ∀ k, k < 6 → ∃ a : AbV, sub r (k * 14) 14 = a.arr ∧ AbIs w n a (zbl c k)
theorem SpRow.to {b : Nat} {w w1 w2 : World} {m n : Nat} {r : Array Value} {c : Nat} (h : SpRow w n r c) (g : Grow w w1) (ho : Off b w1 w2) (hb : b < n) (hm : m ≤ n) : SpRow w2 m r c :=
 ⟨h.1, h.2.1, fun k hk => by obtain ⟨a, h1, h2⟩ := h.2.2 k hk; exact ⟨a, h1, ((h2.grow g).off ho hb).less hm⟩⟩
theorem Spell6.row {w : World} {n : Nat} {e : Ending} {c : Nat} (h : Spell6 w n e c) : ∃ r, e = .returned (.agg r) ∧ SpRow w n r c := by
 obtain ⟨a0, a1, a2, a3, a4, a5, rfl, h0, h1, h2, h3, h4, h5⟩ := h
 have hs := zfv 14 [a0.arr, a1.arr, a2.arr, a3.arr, a4.arr, a5.arr] (by simp [AbV.size])
 refine ⟨_, rfl, zqd _ _ _ _ _ _, z6b _ _ _ _ _ _, fun k hk => ?_⟩
 have : k = 0 ∨ k = 1 ∨ k = 2 ∨ k = 3 ∨ k = 4 ∨ k = 5 := by omega
 rcases this with rfl | rfl | rfl | rfl | rfl | rfl
 · exact ⟨a0, hs 0 (by simp), h0⟩
 · exact ⟨a1, hs 1 (by simp), h1⟩
 · exact ⟨a2, hs 2 (by simp), h2⟩
 · exact ⟨a3, hs 3 (by simp), h3⟩
 · exact ⟨a4, hs 4 (by simp), h4⟩
 · exact ⟨a5, hs 5 (by simp), h5⟩
@[go_sem ↓] theorem z9l (ρ : Operand → Value) (dst : Option Tmp) (parts : Array (Nat × Operand)) (ty : TypeId) (pos : String) (after : Array Edge) (guard : Option (Nat × Bool)) :
 execOp ρ { dst, op := .build 189 parts, type := ty, pos, after, guard } = za0 189 (parts.map fun (i, x) => (i, ρ x)) := rfl
@[go_sem ↓] theorem yce (ρ : Operand → Value) (dst : Option Tmp) (x : Operand) (ty : TypeId) (pos : String) (after : Array Edge) (guard : Option (Nat × Bool)) :
 execOp ρ { dst, op := .load 189 x, type := ty, pos, after, guard } = za3 189 (ρ x) := rfl
@[go_sem ↓] theorem yaa (ρ : Operand → Value) (dst : Option Tmp) (x y : Operand) (ty : TypeId) (pos : String) (after : Array Edge) (guard : Option (Nat × Bool)) :
 execOp ρ { dst, op := .store 189 x y, type := ty, pos, after, guard } = zaz 189 (ρ x) (ρ y) := rfl
@[go_sem] theorem zmg (w : World) (b o : Nat) (h : o + 280 ≤ (w.blk b).size) : (za3 189 (.pointer (some ⟨b, o, none⟩))).run Tryz.prog w = .ok (.value (.agg (sub (w.blk b) o 280))) w :=
 zaw w b o 189 280 (by kernel_rfl) (by kernel_rfl) h (by omega)
@[go_sem] theorem zz5 (w : World) (b : Nat) (cs : Array Value) (h : (w.blk b).size = 280) (hc : cs.size = 280) (h1 : zai cs = true) (hf : w.free b = true) : (zaz 189 (.pointer (some ⟨b, 0, none⟩)) (.agg cs)).run Tryz.prog w = .ok .skip (w.setRow b cs) :=
 zax w b 189 280 _ (by kernel_rfl) h hc (by omega) hf h1
theorem znd (w : World) (b : Nat) (h : (w.blk b).size = 280) : (loadVar 189 ⟨b, 0, none⟩).run Tryz.prog w = .ok (.agg (sub (w.blk b) 0 280)) w := by
 have := zmg w b 0 (by omega)
 unfold za3 at this
 rw [Sem.run_bind] at this
 simp only [Instr.loadAt, Instr.sureAddr, Sem.run_bind, Sem.run_pure, Result.andThen_ok] at this
 cases hr : (loadVar 189 ⟨b, 0, none⟩).run Tryz.prog w with
 | ok v w' => rw [hr] at this; simp at this; rw [this.1, this.2]
 | halt x w' => rw [hr] at this; simp [Result.andThen] at this
theorem znr {fn : Func} {p : Tmp} (h : fn.results = #[.cell p 189]) (tmps : Array Value) (w : World) (b : Nat) (hp : tmps.getD p undef = .pointer (some ⟨b, 0, none⟩)) (h1 : (w.blk b).size = 280) :
 (results fn tmps).run Tryz.prog w = .ok (.agg (sub (w.blk b) 0 280)) w := by
 unfold results
 rw [h]
 have e1 := znd w b h1
 have hp' : tmps[p]?.getD undef = .pointer (some ⟨b, 0, none⟩) := by simpa using hp
 simp [asAddr, hp', e1]
@[go_sem ↓] theorem z9m (ρ : Operand → Value) (dst : Option Tmp) (parts : Array (Nat × Operand)) (ty : TypeId) (pos : String) (after : Array Edge) (guard : Option (Nat × Bool)) :
 execOp ρ { dst, op := .build 186 parts, type := ty, pos, after, guard } = za0 186 (parts.map fun (i, x) => (i, ρ x)) := rfl
@[go_sem ↓] theorem ycf (ρ : Operand → Value) (dst : Option Tmp) (x : Operand) (ty : TypeId) (pos : String) (after : Array Edge) (guard : Option (Nat × Bool)) :
 execOp ρ { dst, op := .load 186 x, type := ty, pos, after, guard } = za3 186 (ρ x) := rfl
@[go_sem ↓] theorem yab (ρ : Operand → Value) (dst : Option Tmp) (x y : Operand) (ty : TypeId) (pos : String) (after : Array Edge) (guard : Option (Nat × Bool)) :
 execOp ρ { dst, op := .store 186 x y, type := ty, pos, after, guard } = zaz 186 (ρ x) (ρ y) := rfl
@[go_sem] theorem zmh (w : World) (b o : Nat) (h : o + 420 ≤ (w.blk b).size) : (za3 186 (.pointer (some ⟨b, o, none⟩))).run Tryz.prog w = .ok (.value (.agg (sub (w.blk b) o 420))) w :=
 zaw w b o 186 420 (by kernel_rfl) (by kernel_rfl) h (by omega)
@[go_sem] theorem zz6 (w : World) (b : Nat) (cs : Array Value) (h : (w.blk b).size = 420) (hc : cs.size = 420) (h1 : zai cs = true) (hf : w.free b = true) : (zaz 186 (.pointer (some ⟨b, 0, none⟩)) (.agg cs)).run Tryz.prog w = .ok .skip (w.setRow b cs) :=
 zax w b 186 420 _ (by kernel_rfl) h hc (by omega) hf h1
theorem zne (w : World) (b : Nat) (h : (w.blk b).size = 420) : (loadVar 186 ⟨b, 0, none⟩).run Tryz.prog w = .ok (.agg (sub (w.blk b) 0 420)) w := by
 have := zmh w b 0 (by omega)
 unfold za3 at this
 rw [Sem.run_bind] at this
 simp only [Instr.loadAt, Instr.sureAddr, Sem.run_bind, Sem.run_pure, Result.andThen_ok] at this
 cases hr : (loadVar 186 ⟨b, 0, none⟩).run Tryz.prog w with
 | ok v w' => rw [hr] at this; simp at this; rw [this.1, this.2]
 | halt x w' => rw [hr] at this; simp [Result.andThen] at this
theorem zns {fn : Func} {p : Tmp} (h : fn.results = #[.cell p 186]) (tmps : Array Value) (w : World) (b : Nat) (hp : tmps.getD p undef = .pointer (some ⟨b, 0, none⟩)) (h1 : (w.blk b).size = 420) :
 (results fn tmps).run Tryz.prog w = .ok (.agg (sub (w.blk b) 0 420)) w := by
 unfold results
 rw [h]
 have e1 := zne w b h1
 have hp' : tmps[p]?.getD undef = .pointer (some ⟨b, 0, none⟩) := by simpa using hp
 simp [asAddr, hp', e1]
@[go_sem] theorem yax (a b c d e : Array Value) : (zd0 [a, b, c, d, e]).size = a.size + (b.size + (c.size + (d.size + e.size))) := by simp [zd0]
theorem z05 (a b c d e : Array Value) (ha : zai a = true) (hb : zai b = true) (hc : zai c = true) (hd : zai d = true) (he : zai e = true) : zai (zd0 [a, b, c, d, e]) = true := by
 refine zqh _ fun x hx => ?_
 simp at hx
 rcases hx with rfl | rfl | rfl | rfl | rfl <;> assumption
attribute [go_sem] z05
theorem z4i (a : Array Value) (n : Nat) (h : a.size = n) : sub a 0 n = a := by
 unfold sub; rw [Nat.zero_add, ← h, Array.extract_size]
attribute [go_sem] z4i
theorem zkh (w : World) (a b c d e : Array Value) (ha : a.size = 56) (hb : b.size = 56) (hc : c.size = 56) (hd : d.size = 56) (he : e.size = 56) :
 (za0 189 #[(0, .agg a), (1, .agg b), (2, .agg c), (3, .agg d), (4, .agg e)]).run Tryz.prog w = .ok (.value (.agg (zd0 [a, b, c, d, e]))) w :=
 zge w 189 188 5 56 Tryz.t189 Tryz.underlying189 (by kernel_rfl) (by kernel_rfl) (by kernel_rfl) [a, b, c, d, e] rfl (by simp [ha, hb, hc, hd, he])
theorem zki (w : World) (a b c d e : Array Value) (ha : a.size = 84) (hb : b.size = 84) (hc : c.size = 84) (hd : d.size = 84) (he : e.size = 84) :
 (za0 186 #[(0, .agg a), (1, .agg b), (2, .agg c), (3, .agg d), (4, .agg e)]).run Tryz.prog w = .ok (.value (.agg (zd0 [a, b, c, d, e]))) w :=
 zge w 186 185 5 84 Tryz.t186 Tryz.underlying186 (by kernel_rfl) (by kernel_rfl) (by kernel_rfl) [a, b, c, d, e] rfl (by simp [ha, hb, hc, hd, he])
attribute [go_sem] zkh zki
def RelAll (w : World) (n : Nat) (x : Array Value) : Prop := ∀ c k, c < 5 → k < 4 → ∃ a : AbV, sub (sub x (c * 56) 56) (k * 14) 14 = a.arr ∧ AbIs w n a (zca c k)
theorem RelAll.of {w : World} {n : Nat} {a b c d e : Array Value} (ha : RelRow w n a 0) (hb : RelRow w n b 1) (hc : RelRow w n c 2) (hd : RelRow w n d 3) (he : RelRow w n e 4) : RelAll w n (zd0 [a, b, c, d, e]) := by
 have hs := zfv 56 [a, b, c, d, e] (by simp [ha.1, hb.1, hc.1, hd.1, he.1])
 intro i k hi hk
 have : i = 0 ∨ i = 1 ∨ i = 2 ∨ i = 3 ∨ i = 4 := by omega
 rcases this with rfl | rfl | rfl | rfl | rfl
 · rw [hs 0 (by simp)]; exact ha.2.2 k hk
 · rw [hs 1 (by simp)]; exact hb.2.2 k hk
 · rw [hs 2 (by simp)]; exact hc.2.2 k hk
 · rw [hs 3 (by simp)]; exact hd.2.2 k hk
 · rw [hs 4 (by simp)]; exact he.2.2 k hk
def SpAll (w : World) (n : Nat) (x : Array Value) : Prop := ∀ c k, c < 5 → k < 6 → ∃ a : AbV, sub (sub x (c * 84) 84) (k * 14) 14 = a.arr ∧ AbIs w n a (zbl c k)
theorem SpAll.of {w : World} {n : Nat} {a b c d e : Array Value} (ha : SpRow w n a 0) (hb : SpRow w n b 1) (hc : SpRow w n c 2) (hd : SpRow w n d 3) (he : SpRow w n e 4) : SpAll w n (zd0 [a, b, c, d, e]) := by
 have hs := zfv 84 [a, b, c, d, e] (by simp [ha.1, hb.1, hc.1, hd.1, he.1])
 intro i k hi hk
 have : i = 0 ∨ i = 1 ∨ i = 2 ∨ i = 3 ∨ i = 4 := by omega
 rcases this with rfl | rfl | rfl | rfl | rfl
 · rw [hs 0 (by simp)]; exact ha.2.2 k hk
 · rw [hs 1 (by simp)]; exact hb.2.2 k hk
 · rw [hs 2 (by simp)]; exact hc.2.2 k hk
 · rw [hs 3 (by simp)]; exact hd.2.2 k hk
 · rw [hs 4 (by simp)]; exact he.2.2 k hk
set_option maxRecDepth 100000 in
set_option maxHeartbeats 1000000 in
theorem zta (w : World) : Calls Tryz.prog 154 #[] w fun r w' => ∃ x, r = .returned (.agg x) ∧ RelAll w' w.heap.size x ∧ Grow w w' := by
 go_enter Tryz.func154, Tryz.ntmps154
 go_wp2_with (first
  | (go_at_call 174; refine (zj3 _).mono ?_; rintro e' w' ⟨hr, nx, rfl⟩; obtain ⟨r0, rfl, hq⟩ := hr.row; clear hr; have s0 := hq.1; have o0 := hq.2.1; (try simp only [zae] at hq); (try simp only [zad] at hq); have H0 := Lib.hid hq; clear hq)
  | (go_at_call 175; refine (zj6 _).mono ?_; rintro e' w' ⟨hr, nx, rfl⟩; obtain ⟨r1, rfl, hq⟩ := hr.row; clear hr; have s1 := hq.1; have o1 := hq.2.1; (try simp only [zae] at hq); (try simp only [zad] at hq); have H1 := Lib.hid hq; clear hq)
  | (go_at_call 176; refine (zi0 _).mono ?_; rintro e' w' ⟨hr, nx, rfl⟩; obtain ⟨r2, rfl, hq⟩ := hr.row; clear hr; have s2 := hq.1; have o2 := hq.2.1; (try simp only [zae] at hq); (try simp only [zad] at hq); have H2 := Lib.hid hq; clear hq)
  | (go_at_call 177; refine (zl3 _).mono ?_; rintro e' w' ⟨hr, nx, rfl⟩; obtain ⟨r3, rfl, hq⟩ := hr.row; clear hr; have s3 := hq.1; have o3 := hq.2.1; (try simp only [zae] at hq); (try simp only [zad] at hq); have H3 := Lib.hid hq; clear hq)
  | (go_at_call 178; refine (zjg _).mono ?_; rintro e' w' ⟨hr, nx, rfl⟩; obtain ⟨r4, rfl, hq⟩ := hr.row; clear hr; have s4 := hq.1; have o4 := hq.2.1; (try simp only [zae] at hq); (try simp only [zad] at hq); have H4 := Lib.hid hq; clear hq))
 refine bodyPost_ret (znr rfl _ _ _ rfl ?_) rfl ?_
 · go_simp
 · rename_i x3 x2 x1 x0
   refine ⟨zd0 [r0, r1, r2, r3, r4], by go_simp, RelAll.of (H0.out.to (b := w.heap.size) (w1 := ((w.alloc (Obj.cells Tryz.zeroCells189 189)).plus ((((x3.and x2).and x1).and x0).and nx))) grI (by repeat (first | exact Off.base _ _ _ _ rfl | refine Off.plus ?_ _ | refine Off.alloc ?_ _)) (by first | (go_simp; done) | (go_simp; omega) | (simp only [Sl.b]; go_simp; omega)) (by first | (go_simp; done) | (go_simp; omega) | (simp only [Sl.b]; go_simp; omega))) (H1.out.to (b := w.heap.size) (w1 := ((w.alloc (Obj.cells Tryz.zeroCells189 189)).plus ((((x3.and x2).and x1).and x0).and nx))) grI (by repeat (first | exact Off.base _ _ _ _ rfl | refine Off.plus ?_ _ | refine Off.alloc ?_ _)) (by first | (go_simp; done) | (go_simp; omega) | (simp only [Sl.b]; go_simp; omega)) (by first | (go_simp; done) | (go_simp; omega) | (simp only [Sl.b]; go_simp; omega))) (H2.out.to (b := w.heap.size) (w1 := ((w.alloc (Obj.cells Tryz.zeroCells189 189)).plus ((((x3.and x2).and x1).and x0).and nx))) grI (by repeat (first | exact Off.base _ _ _ _ rfl | refine Off.plus ?_ _ | refine Off.alloc ?_ _)) (by first | (go_simp; done) | (go_simp; omega) | (simp only [Sl.b]; go_simp; omega)) (by first | (go_simp; done) | (go_simp; omega) | (simp only [Sl.b]; go_simp; omega))) (H3.out.to (b := w.heap.size) (w1 := ((w.alloc (Obj.cells Tryz.zeroCells189 189)).plus ((((x3.and x2).and x1).and x0).and nx))) grI (by repeat (first | exact Off.base _ _ _ _ rfl | refine Off.plus ?_ _ | refine Off.alloc ?_ _)) (by first | (go_simp; done) | (go_simp; omega) | (simp only [Sl.b]; go_simp; omega)) (by first | (go_simp; done) | (go_simp; omega) | (simp only [Sl.b]; go_simp; omega))) (H4.out.to (b := w.heap.size) (w1 := ((w.alloc (Obj.cells Tryz.zeroCells189 189)).plus ((((x3.and x2).and x1).and x0).and nx))) grI (by repeat (first | exact Off.base _ _ _ _ rfl | refine Off.plus ?_ _ | refine Off.alloc ?_ _)) (by first | (go_simp; done) | (go_simp; omega) | (simp only [Sl.b]; go_simp; omega)) (by first | (go_simp; done) | (go_simp; omega) | (simp only [Sl.b]; go_simp; omega))), grI⟩
set_option maxRecDepth 100000 in
set_option maxHeartbeats 1000000 in
theorem zt6 (w : World) : Calls Tryz.prog 153 #[] w fun r w' => ∃ x, r = .returned (.agg x) ∧ SpAll w' w.heap.size x ∧ Grow w w' := by
 go_enter Tryz.func153, Tryz.ntmps153
 go_wp2_with (first
  | (go_at_call 169; refine (zj4 _).mono ?_; rintro e' w' ⟨hr, nx, rfl⟩; obtain ⟨r0, rfl, hq⟩ := hr.row; clear hr; have s0 := hq.1; have o0 := hq.2.1; (try simp only [zae] at hq); (try simp only [zad] at hq); have H0 := Lib.hid hq; clear hq)
  | (go_at_call 170; refine (zj7 _).mono ?_; rintro e' w' ⟨hr, nx, rfl⟩; obtain ⟨r1, rfl, hq⟩ := hr.row; clear hr; have s1 := hq.1; have o1 := hq.2.1; (try simp only [zae] at hq); (try simp only [zad] at hq); have H1 := Lib.hid hq; clear hq)
  | (go_at_call 171; refine (zi1 _).mono ?_; rintro e' w' ⟨hr, nx, rfl⟩; obtain ⟨r2, rfl, hq⟩ := hr.row; clear hr; have s2 := hq.1; have o2 := hq.2.1; (try simp only [zae] at hq); (try simp only [zad] at hq); have H2 := Lib.hid hq; clear hq)
  | (go_at_call 172; refine (zl4 _).mono ?_; rintro e' w' ⟨hr, nx, rfl⟩; obtain ⟨r3, rfl, hq⟩ := hr.row; clear hr; have s3 := hq.1; have o3 := hq.2.1; (try simp only [zae] at hq); (try simp only [zad] at hq); have H3 := Lib.hid hq; clear hq)
  | (go_at_call 173; refine (zjh _).mono ?_; rintro e' w' ⟨hr, nx, rfl⟩; obtain ⟨r4, rfl, hq⟩ := hr.row; clear hr; have s4 := hq.1; have o4 := hq.2.1; (try simp only [zae] at hq); (try simp only [zad] at hq); have H4 := Lib.hid hq; clear hq))
 refine bodyPost_ret (zns rfl _ _ _ rfl ?_) rfl ?_
 · go_simp
 · rename_i x3 x2 x1 x0
   refine ⟨zd0 [r0, r1, r2, r3, r4], by go_simp, SpAll.of (H0.out.to (b := w.heap.size) (w1 := ((w.alloc (Obj.cells Tryz.zeroCells186 186)).plus ((((x3.and x2).and x1).and x0).and nx))) grI (by repeat (first | exact Off.base _ _ _ _ rfl | refine Off.plus ?_ _ | refine Off.alloc ?_ _)) (by first | (go_simp; done) | (go_simp; omega) | (simp only [Sl.b]; go_simp; omega)) (by first | (go_simp; done) | (go_simp; omega) | (simp only [Sl.b]; go_simp; omega))) (H1.out.to (b := w.heap.size) (w1 := ((w.alloc (Obj.cells Tryz.zeroCells186 186)).plus ((((x3.and x2).and x1).and x0).and nx))) grI (by repeat (first | exact Off.base _ _ _ _ rfl | refine Off.plus ?_ _ | refine Off.alloc ?_ _)) (by first | (go_simp; done) | (go_simp; omega) | (simp only [Sl.b]; go_simp; omega)) (by first | (go_simp; done) | (go_simp; omega) | (simp only [Sl.b]; go_simp; omega))) (H2.out.to (b := w.heap.size) (w1 := ((w.alloc (Obj.cells Tryz.zeroCells186 186)).plus ((((x3.and x2).and x1).and x0).and nx))) grI (by repeat (first | exact Off.base _ _ _ _ rfl | refine Off.plus ?_ _ | refine Off.alloc ?_ _)) (by first | (go_simp; done) | (go_simp; omega) | (simp only [Sl.b]; go_simp; omega)) (by first | (go_simp; done) | (go_simp; omega) | (simp only [Sl.b]; go_simp; omega))) (H3.out.to (b := w.heap.size) (w1 := ((w.alloc (Obj.cells Tryz.zeroCells186 186)).plus ((((x3.and x2).and x1).and x0).and nx))) grI (by repeat (first | exact Off.base _ _ _ _ rfl | refine Off.plus ?_ _ | refine Off.alloc ?_ _)) (by first | (go_simp; done) | (go_simp; omega) | (simp only [Sl.b]; go_simp; omega)) (by first | (go_simp; done) | (go_simp; omega) | (simp only [Sl.b]; go_simp; omega))) (H4.out.to (b := w.heap.size) (w1 := ((w.alloc (Obj.cells Tryz.zeroCells186 186)).plus ((((x3.and x2).and x1).and x0).and nx))) grI (by repeat (first | exact Off.base _ _ _ _ rfl | refine Off.plus ?_ _ | refine Off.alloc ?_ _)) (by first | (go_simp; done) | (go_simp; omega) | (simp only [Sl.b]; go_simp; omega)) (by first | (go_simp; done) | (go_simp; omega) | (simp only [Sl.b]; go_simp; omega))), grI⟩
end Go.Proofs.YthfalocligkamaaGreatDoor
