/- The spells of each colour, in full. -/
import Derived.Test.YtgobdndjemicjaaGreatDoorMCard
import Derived.Test.YtgobdndjemicjaaGreatDoorMRelics
namespace Go.Proofs.YtgobdndjemicjaaGreatDoor
open Go Go.RowKit
@[go_sem ↓] theorem ya5 (ρ : Operand → Value) (dst : Option Tmp) (parts : Array (Nat × Operand)) (ty : TypeId) (pos : String) (after : Array Edge) (guard : Option (Nat × Bool)) :
 execOp ρ { dst, op := .build 166 parts, type := ty, pos, after, guard } = za2 166 (parts.map fun (i, x) => (i, ρ x)) := rfl
@[go_sem ↓] theorem yfb (ρ : Operand → Value) (dst : Option Tmp) (x : Operand) (ty : TypeId) (pos : String) (after : Array Edge) (guard : Option (Nat × Bool)) :
 execOp ρ { dst, op := .load 166 x, type := ty, pos, after, guard } = za8 166 (ρ x) := rfl
@[go_sem ↓] theorem yd8 (ρ : Operand → Value) (dst : Option Tmp) (x y : Operand) (ty : TypeId) (pos : String) (after : Array Edge) (guard : Option (Nat × Bool)) :
 execOp ρ { dst, op := .store 166 x y, type := ty, pos, after, guard } = zas 166 (ρ x) (ρ y) := rfl
@[go_sem] theorem zo1 (w : World) (b o : Nat) (h : o + 84 ≤ (w.blk b).size) : (za8 166 (.pointer (some ⟨b, o, none⟩))).run Tryz.prog w = .ok (.value (.agg (sub (w.blk b) o 84))) w :=
 zaw w b o 166 84 (by kernel_rfl) (by kernel_rfl) h (by omega)
@[go_sem] theorem z36 (w : World) (b : Nat) (cs : Array Value) (h : (w.blk b).size = 84) (hc : cs.size = 84) (h1 : zal cs = true) (hf : w.free b = true) : (zas 166 (.pointer (some ⟨b, 0, none⟩)) (.agg cs)).run Tryz.prog w = .ok .skip (w.setRow b cs) :=
 zax w b 166 84 _ (by kernel_rfl) h hc (by omega) hf h1
theorem zqe (w : World) (b : Nat) (h : (w.blk b).size = 84) : (loadVar 166 ⟨b, 0, none⟩).run Tryz.prog w = .ok (.agg (sub (w.blk b) 0 84)) w := by
 have := zo1 w b 0 (by omega)
 unfold za8 at this
 rw [Sem.run_bind] at this
 simp only [Instr.loadAt, Instr.sureAddr, Sem.run_bind, Sem.run_pure, Result.andThen_ok] at this
 cases hr : (loadVar 166 ⟨b, 0, none⟩).run Tryz.prog w with
 | ok v w' => rw [hr] at this; simp at this; rw [this.1, this.2]
 | halt x w' => rw [hr] at this; simp [Result.andThen] at this
theorem zet {fn : Func} {p : Tmp} (h : fn.results = #[.cell p 166]) (tmps : Array Value) (w : World) (b : Nat) (hp : tmps.getD p undef = .pointer (some ⟨b, 0, none⟩)) (h1 : (w.blk b).size = 84) :
 (results fn tmps).run Tryz.prog w = .ok (.agg (sub (w.blk b) 0 84)) w := by
 unfold results
 rw [h]
 have e1 := zqe w b h1
 have hp' : tmps[p]?.getD undef = .pointer (some ⟨b, 0, none⟩) := by simpa using hp
 simp [asAddr, hp', e1]
@[go_sem] theorem zrc (a b c d e f : AbV) : (zen [a.arr, b.arr, c.arr, d.arr, e.arr, f.arr]).size = 84 := by simp [zen, AbV.arr]
@[go_sem] theorem z60 (a b c d e f : AbV) : zal (zen [a.arr, b.arr, c.arr, d.arr, e.arr, f.arr]) = true := by
 have h1 := AbV.one a; have h2 := AbV.one b; have h3 := AbV.one c; have h4 := AbV.one d; have h5 := AbV.one e; have h6 := AbV.one f
 unfold zal at *
 simp [zen, h1, h2, h3, h4, h5, h6]
@[go_sem] theorem ygf (a b c d e f : AbV) : sub (zen [a.arr, b.arr, c.arr, d.arr, e.arr, f.arr]) 0 84 = zen [a.arr, b.arr, c.arr, d.arr, e.arr, f.arr] := by
 unfold sub; rw [Nat.zero_add, ← zrc a b c d e f, Array.extract_size]
theorem zm6 (w : World) (a b c d e f : AbV) : (za2 166 #[(0, .agg a.arr), (1, .agg b.arr), (2, .agg c.arr), (3, .agg d.arr), (4, .agg e.arr), (5, .agg f.arr)]).run Tryz.prog w = .ok (.value (.agg (zen [a.arr, b.arr, c.arr, d.arr, e.arr, f.arr]))) w := by
 obtain ⟨a0, a1, a2, a3, a4, a5, a6, a7, a8, ⟨a9, a10, a11, a12, sa⟩⟩ := a
 obtain ⟨b0, b1, b2, b3, b4, b5, b6, b7, b8, ⟨b9, b10, b11, b12, sb⟩⟩ := b
 obtain ⟨c0, c1, c2, c3, c4, c5, c6, c7, c8, ⟨c9, c10, c11, c12, sc⟩⟩ := c
 obtain ⟨d0, d1, d2, d3, d4, d5, d6, d7, d8, ⟨d9, d10, d11, d12, sd⟩⟩ := d
 obtain ⟨e0, e1, e2, e3, e4, e5, e6, e7, e8, ⟨e9, e10, e11, e12, se⟩⟩ := e
 obtain ⟨f0, f1, f2, f3, f4, f5, f6, f7, f8, ⟨f9, f10, f11, f12, sf⟩⟩ := f
 cases sa <;> cases sb <;> cases sc <;> cases sd <;> cases se <;> cases sf <;> kernel_rfl
attribute [go_sem] zm6
@[go_sem] theorem zr4 (w : World) (a b : Int) (k o n c : Nat) : (za2 36 #[(0, .int .i64 a), (2, .int .i64 b), (4, .slice (some ⟨k, o, none⟩) n c)]).run Tryz.prog w = .ok (.value (.agg (EfV.arr ⟨a, 0, b, 0, .mk k o n c⟩))) w := by kernel_rfl
theorem zid (w : World) (b o n c : Nat) : Calls Tryz.prog 245 #[.slice (some ⟨b, o, none⟩) n c] w fun r w' => r = .returned (.agg (EfV.arr ⟨21, 0, 0, 0, .mk b o n c⟩)) ∧ Grow w w' := z80 w (.mk b o n c)
def Spell6 (w : World) (n : Nat) (r : Ending) (k : Nat) : Prop := ∃ a b c d e f : AbV, r = .returned (.agg (zen [a.arr, b.arr, c.arr, d.arr, e.arr, f.arr])) ∧ AbIs w n a (zbs k 0) ∧ AbIs w n b (zbs k 1) ∧ AbIs w n c (zbs k 2) ∧ AbIs w n d (zbs k 3) ∧ AbIs w n e (zbs k 4) ∧ AbIs w n f (zbs k 5)
set_option maxRecDepth 100000 in
set_option maxHeartbeats 4000000 in
theorem zk2 (w : World) : Calls Tryz.prog 201 #[] w fun r w' => Spell6 w' w.heap.size r 0 ∧ Grow w w' := by
 go_enter Tryz.func201, Tryz.ntmps201
 go_wp2_with (first | (go_at_call 199; refine (zbl _ _ _ _ _).mono ?_; rintro e' w' ⟨rfl, nx, rfl⟩) | (go_at_call 243; refine (zc2 _ _ _).mono ?_; rintro e' w' ⟨rfl, nx, rfl⟩) | (go_at_call 244; refine (zbg _ _ _ _ _).mono ?_; rintro e' w' ⟨s1, rfl, ⟨hR, hb⟩, nx, rfl⟩; (try simp only [zad] at hR); (try simp only [zac] at hR); have HR := Lib.hid (And.intro hR hb); clear hR hb) | (go_at_call 245; refine (zid _ _ _ _ _).mono ?_; rintro e' w' ⟨rfl, nx, rfl⟩))
 refine bodyPost_ret (zet rfl _ _ _ rfl ?_) rfl ?_
 · go_simp
 · exact ⟨⟨_, _, _, _, _, _, by (go_simp; first | rfl | exact ⟨rfl, rfl, rfl, rfl, rfl, rfl⟩), AbIs.plain _ _ _ _ _ _ _ _ _ _ _ _ _ _ _ (zbs 0 0) (by rfl) (by rfl) (by rfl) (by rfl) (by rfl), AbIs.plain _ _ _ _ _ _ _ _ _ _ _ _ _ _ _ (zbs 0 1) (by rfl) (by rfl) (by rfl) (by rfl) (by rfl), AbIs.deep _ _ _ _ _ _ _ _ _ _ _ _ _ _ _ _ (zbs 0 2) [[10, 1, 1, 2]] (by rfl) (by rfl) (by rfl) (by rfl) (by rfl) (RowsV.grow (RowsV.off (b := w.heap.size) HR.out.1 (Off.plus (Off.base w _ _ _ rfl) _) (Nat.ne_of_gt (Nat.lt_of_lt_of_le (by first | (go_simp; done) | (go_simp; omega) | (simp only [Sl.b]; go_simp; omega)) HR.out.2))) grI) (Nat.le_trans (by first | (go_simp; done) | (go_simp; omega) | (simp only [Sl.b]; go_simp; omega)) HR.out.2), AbIs.plain _ _ _ _ _ _ _ _ _ _ _ _ _ _ _ (zbs 0 3) (by rfl) (by rfl) (by rfl) (by rfl) (by rfl), AbIs.deep _ _ _ _ _ _ _ _ _ _ _ _ _ _ _ _ (zbs 0 4) [[2, 2, 0, 0], [4, 1, 0, 0]] (by rfl) (by rfl) (by rfl) (by rfl) (by rfl) (RowsV.two (x := EfV.arr _) (y := EfV.arr _) (by go_simp) (by go_simp; rfl) (by go_simp) (by go_simp)) (by first | (go_simp; done) | (go_simp; omega) | (simp only [Sl.b]; go_simp; omega)), AbIs.deep _ _ _ _ _ _ _ _ _ _ _ _ _ _ _ _ (zbs 0 5) [[2, 8, 0, 0], [4, 1, 0, 0]] (by rfl) (by rfl) (by rfl) (by rfl) (by rfl) (RowsV.two (x := EfV.arr _) (y := EfV.arr _) (by go_simp) (by go_simp; rfl) (by go_simp) (by go_simp)) (by first | (go_simp; done) | (go_simp; omega) | (simp only [Sl.b]; go_simp; omega))⟩, grI⟩
set_option maxRecDepth 100000 in
set_option maxHeartbeats 4000000 in
theorem zk5 (w : World) : Calls Tryz.prog 202 #[] w fun r w' => Spell6 w' w.heap.size r 1 ∧ Grow w w' := by
 go_enter Tryz.func202, Tryz.ntmps202
 go_wp2_with (first | (go_at_call 199; refine (zbl _ _ _ _ _).mono ?_; rintro e' w' ⟨rfl, nx, rfl⟩) | (go_at_call 243; refine (zc2 _ _ _).mono ?_; rintro e' w' ⟨rfl, nx, rfl⟩) | (go_at_call 244; refine (zbg _ _ _ _ _).mono ?_; rintro e' w' ⟨s1, rfl, ⟨hR, hb⟩, nx, rfl⟩; (try simp only [zad] at hR); (try simp only [zac] at hR); have HR := Lib.hid (And.intro hR hb); clear hR hb) | (go_at_call 245; refine (zid _ _ _ _ _).mono ?_; rintro e' w' ⟨rfl, nx, rfl⟩))
 refine bodyPost_ret (zet rfl _ _ _ rfl ?_) rfl ?_
 · go_simp
 · exact ⟨⟨_, _, _, _, _, _, by (go_simp; first | rfl | exact ⟨rfl, rfl, rfl, rfl, rfl, rfl⟩), AbIs.plain _ _ _ _ _ _ _ _ _ _ _ _ _ _ _ (zbs 1 0) (by rfl) (by rfl) (by rfl) (by rfl) (by rfl), AbIs.plain _ _ _ _ _ _ _ _ _ _ _ _ _ _ _ (zbs 1 1) (by rfl) (by rfl) (by rfl) (by rfl) (by rfl), AbIs.plain _ _ _ _ _ _ _ _ _ _ _ _ _ _ _ (zbs 1 2) (by rfl) (by rfl) (by rfl) (by rfl) (by rfl), AbIs.plain _ _ _ _ _ _ _ _ _ _ _ _ _ _ _ (zbs 1 3) (by rfl) (by rfl) (by rfl) (by rfl) (by rfl), AbIs.plain _ _ _ _ _ _ _ _ _ _ _ _ _ _ _ (zbs 1 4) (by rfl) (by rfl) (by rfl) (by rfl) (by rfl), AbIs.deep _ _ _ _ _ _ _ _ _ _ _ _ _ _ _ _ (zbs 1 5) [[4, 3, 0, 0], [19, 1, 0, 0]] (by rfl) (by rfl) (by rfl) (by rfl) (by rfl) (RowsV.two (x := EfV.arr _) (y := EfV.arr _) (by go_simp) (by go_simp; rfl) (by go_simp) (by go_simp)) (by first | (go_simp; done) | (go_simp; omega) | (simp only [Sl.b]; go_simp; omega))⟩, grI⟩
set_option maxRecDepth 100000 in
set_option maxHeartbeats 4000000 in
theorem zj6 (w : World) : Calls Tryz.prog 203 #[] w fun r w' => Spell6 w' w.heap.size r 2 ∧ Grow w w' := by
 go_enter Tryz.func203, Tryz.ntmps203
 go_wp2_with (first | (go_at_call 199; refine (zbl _ _ _ _ _).mono ?_; rintro e' w' ⟨rfl, nx, rfl⟩) | (go_at_call 243; refine (zc2 _ _ _).mono ?_; rintro e' w' ⟨rfl, nx, rfl⟩) | (go_at_call 244; refine (zbg _ _ _ _ _).mono ?_; rintro e' w' ⟨s1, rfl, ⟨hR, hb⟩, nx, rfl⟩; (try simp only [zad] at hR); (try simp only [zac] at hR); have HR := Lib.hid (And.intro hR hb); clear hR hb) | (go_at_call 245; refine (zid _ _ _ _ _).mono ?_; rintro e' w' ⟨rfl, nx, rfl⟩))
 refine bodyPost_ret (zet rfl _ _ _ rfl ?_) rfl ?_
 · go_simp
 · exact ⟨⟨_, _, _, _, _, _, by (go_simp; first | rfl | exact ⟨rfl, rfl, rfl, rfl, rfl, rfl⟩), AbIs.plain _ _ _ _ _ _ _ _ _ _ _ _ _ _ _ (zbs 2 0) (by rfl) (by rfl) (by rfl) (by rfl) (by rfl), AbIs.plain _ _ _ _ _ _ _ _ _ _ _ _ _ _ _ (zbs 2 1) (by rfl) (by rfl) (by rfl) (by rfl) (by rfl), AbIs.plain _ _ _ _ _ _ _ _ _ _ _ _ _ _ _ (zbs 2 2) (by rfl) (by rfl) (by rfl) (by rfl) (by rfl), AbIs.deep _ _ _ _ _ _ _ _ _ _ _ _ _ _ _ _ (zbs 2 3) [[3, 2, 0, 1], [2, 2, 0, 0]] (by rfl) (by rfl) (by rfl) (by rfl) (by rfl) (RowsV.two (x := EfV.arr _) (y := EfV.arr _) (by go_simp) (by go_simp; rfl) (by go_simp) (by go_simp)) (by first | (go_simp; done) | (go_simp; omega) | (simp only [Sl.b]; go_simp; omega)), AbIs.plain _ _ _ _ _ _ _ _ _ _ _ _ _ _ _ (zbs 2 4) (by rfl) (by rfl) (by rfl) (by rfl) (by rfl), AbIs.plain _ _ _ _ _ _ _ _ _ _ _ _ _ _ _ (zbs 2 5) (by rfl) (by rfl) (by rfl) (by rfl) (by rfl)⟩, grI⟩
set_option maxRecDepth 100000 in
set_option maxHeartbeats 4000000 in
theorem zmv (w : World) : Calls Tryz.prog 204 #[] w fun r w' => Spell6 w' w.heap.size r 3 ∧ Grow w w' := by
 go_enter Tryz.func204, Tryz.ntmps204
 go_wp2_with (first | (go_at_call 199; refine (zbl _ _ _ _ _).mono ?_; rintro e' w' ⟨rfl, nx, rfl⟩) | (go_at_call 243; refine (zc2 _ _ _).mono ?_; rintro e' w' ⟨rfl, nx, rfl⟩) | (go_at_call 244; refine (zbg _ _ _ _ _).mono ?_; rintro e' w' ⟨s1, rfl, ⟨hR, hb⟩, nx, rfl⟩; (try simp only [zad] at hR); (try simp only [zac] at hR); have HR := Lib.hid (And.intro hR hb); clear hR hb) | (go_at_call 245; refine (zid _ _ _ _ _).mono ?_; rintro e' w' ⟨rfl, nx, rfl⟩))
 refine bodyPost_ret (zet rfl _ _ _ rfl ?_) rfl ?_
 · go_simp
 · exact ⟨⟨_, _, _, _, _, _, by (go_simp; first | rfl | exact ⟨rfl, rfl, rfl, rfl, rfl, rfl⟩), AbIs.plain _ _ _ _ _ _ _ _ _ _ _ _ _ _ _ (zbs 3 0) (by rfl) (by rfl) (by rfl) (by rfl) (by rfl), AbIs.plain _ _ _ _ _ _ _ _ _ _ _ _ _ _ _ (zbs 3 1) (by rfl) (by rfl) (by rfl) (by rfl) (by rfl), AbIs.plain _ _ _ _ _ _ _ _ _ _ _ _ _ _ _ (zbs 3 2) (by rfl) (by rfl) (by rfl) (by rfl) (by rfl), AbIs.deep _ _ _ _ _ _ _ _ _ _ _ _ _ _ _ _ (zbs 3 3) [[1, 2, 0, 2]] (by rfl) (by rfl) (by rfl) (by rfl) (by rfl) (RowsV.grow (RowsV.off (b := w.heap.size) HR.out.1 (Off.plus (Off.base w _ _ _ rfl) _) (Nat.ne_of_gt (Nat.lt_of_lt_of_le (by first | (go_simp; done) | (go_simp; omega) | (simp only [Sl.b]; go_simp; omega)) HR.out.2))) grI) (Nat.le_trans (by first | (go_simp; done) | (go_simp; omega) | (simp only [Sl.b]; go_simp; omega)) HR.out.2), AbIs.plain _ _ _ _ _ _ _ _ _ _ _ _ _ _ _ (zbs 3 4) (by rfl) (by rfl) (by rfl) (by rfl) (by rfl), AbIs.deep _ _ _ _ _ _ _ _ _ _ _ _ _ _ _ _ (zbs 3 5) [[1, 2, 0, 2], [4, 1, 0, 0]] (by rfl) (by rfl) (by rfl) (by rfl) (by rfl) (RowsV.two (x := EfV.arr _) (y := EfV.arr _) (by go_simp) (by go_simp; rfl) (by go_simp) (by go_simp)) (by first | (go_simp; done) | (go_simp; omega) | (simp only [Sl.b]; go_simp; omega))⟩, grI⟩
set_option maxRecDepth 100000 in
set_option maxHeartbeats 4000000 in
theorem zkk (w : World) : Calls Tryz.prog 205 #[] w fun r w' => Spell6 w' w.heap.size r 4 ∧ Grow w w' := by
 go_enter Tryz.func205, Tryz.ntmps205
 go_wp2_with (first | (go_at_call 199; refine (zbl _ _ _ _ _).mono ?_; rintro e' w' ⟨rfl, nx, rfl⟩) | (go_at_call 243; refine (zc2 _ _ _).mono ?_; rintro e' w' ⟨rfl, nx, rfl⟩) | (go_at_call 244; refine (zbg _ _ _ _ _).mono ?_; rintro e' w' ⟨s1, rfl, ⟨hR, hb⟩, nx, rfl⟩; (try simp only [zad] at hR); (try simp only [zac] at hR); have HR := Lib.hid (And.intro hR hb); clear hR hb) | (go_at_call 245; refine (zid _ _ _ _ _).mono ?_; rintro e' w' ⟨rfl, nx, rfl⟩))
 refine bodyPost_ret (zet rfl _ _ _ rfl ?_) rfl ?_
 · go_simp
 · exact ⟨⟨_, _, _, _, _, _, by (go_simp; first | rfl | exact ⟨rfl, rfl, rfl, rfl, rfl, rfl⟩), AbIs.plain _ _ _ _ _ _ _ _ _ _ _ _ _ _ _ (zbs 4 0) (by rfl) (by rfl) (by rfl) (by rfl) (by rfl), AbIs.plain _ _ _ _ _ _ _ _ _ _ _ _ _ _ _ (zbs 4 1) (by rfl) (by rfl) (by rfl) (by rfl) (by rfl), AbIs.plain _ _ _ _ _ _ _ _ _ _ _ _ _ _ _ (zbs 4 2) (by rfl) (by rfl) (by rfl) (by rfl) (by rfl), AbIs.plain _ _ _ _ _ _ _ _ _ _ _ _ _ _ _ (zbs 4 3) (by rfl) (by rfl) (by rfl) (by rfl) (by rfl), AbIs.plain _ _ _ _ _ _ _ _ _ _ _ _ _ _ _ (zbs 4 4) (by rfl) (by rfl) (by rfl) (by rfl) (by rfl), AbIs.deep _ _ _ _ _ _ _ _ _ _ _ _ _ _ _ _ (zbs 4 5) [[11, 1, 0, 2]] (by rfl) (by rfl) (by rfl) (by rfl) (by rfl) (RowsV.grow (RowsV.off (b := w.heap.size) HR.out.1 (Off.plus (Off.base w _ _ _ rfl) _) (Nat.ne_of_gt (Nat.lt_of_lt_of_le (by first | (go_simp; done) | (go_simp; omega) | (simp only [Sl.b]; go_simp; omega)) HR.out.2))) grI) (Nat.le_trans (by first | (go_simp; done) | (go_simp; omega) | (simp only [Sl.b]; go_simp; omega)) HR.out.2)⟩, grI⟩
end Go.Proofs.YtgobdndjemicjaaGreatDoor
namespace Go.Proofs.YtgobdndjemicjaaGreatDoor
open Go Go.RowKit
def RelRow (w : World) (n : Nat) (r : Array Value) (c : Nat) : Prop := r.size = 56 ∧ zal r = true ∧ ∀ k, k < 4 → ∃ a : AbV, sub r (k * 14) 14 = a.arr ∧ AbIs w n a (zcn c k)
theorem RelRow.to {b : Nat} {w w1 w2 : World} {m n : Nat} {r : Array Value} {c : Nat} (h : RelRow w n r c) (g : Grow w w1) (ho : Off b w1 w2) (hb : b < n) (hm : m ≤ n) : RelRow w2 m r c :=
 ⟨h.1, h.2.1, fun k hk => by obtain ⟨a, h1, h2⟩ := h.2.2 k hk; exact ⟨a, h1, ((h2.grow g).off ho hb).less hm⟩⟩
theorem Rel4.row {w : World} {n : Nat} {e : Ending} {c : Nat} (h : Rel4 w n e c) : ∃ r, e = .returned (.agg r) ∧ RelRow w n r c := by
 obtain ⟨a0, a1, a2, a3, rfl, h0, h1, h2, h3⟩ := h
 have hs := zgo 14 [a0.arr, a1.arr, a2.arr, a3.arr] (by simp [AbV.size])
 refine ⟨_, rfl, zrb _ _ _ _, z6z _ _ _ _, fun k hk => ?_⟩
 have : k = 0 ∨ k = 1 ∨ k = 2 ∨ k = 3 := by omega
 rcases this with rfl | rfl | rfl | rfl
 · exact ⟨a0, hs 0 (by simp), h0⟩
 · exact ⟨a1, hs 1 (by simp), h1⟩
 · exact ⟨a2, hs 2 (by simp), h2⟩
 · exact ⟨a3, hs 3 (by simp), h3⟩
def SpRow (w : World) (n : Nat) (r : Array Value) (c : Nat) : Prop := r.size = 84 ∧ zal r = true ∧ ∀ k, k < 6 → ∃ a : AbV, sub r (k * 14) 14 = a.arr ∧ AbIs w n a (zbs c k)
theorem SpRow.to {b : Nat} {w w1 w2 : World} {m n : Nat} {r : Array Value} {c : Nat} (h : SpRow w n r c) (g : Grow w w1) (ho : Off b w1 w2) (hb : b < n) (hm : m ≤ n) : SpRow w2 m r c :=
 ⟨h.1, h.2.1, fun k hk => by obtain ⟨a, h1, h2⟩ := h.2.2 k hk; exact ⟨a, h1, ((h2.grow g).off ho hb).less hm⟩⟩
theorem Spell6.row {w : World} {n : Nat} {e : Ending} {c : Nat} (h : Spell6 w n e c) : ∃ r, e = .returned (.agg r) ∧ SpRow w n r c := by
 obtain ⟨a0, a1, a2, a3, a4, a5, rfl, h0, h1, h2, h3, h4, h5⟩ := h
 have hs := zgo 14 [a0.arr, a1.arr, a2.arr, a3.arr, a4.arr, a5.arr] (by simp [AbV.size])
 refine ⟨_, rfl, zrc _ _ _ _ _ _, z60 _ _ _ _ _ _, fun k hk => ?_⟩
 have : k = 0 ∨ k = 1 ∨ k = 2 ∨ k = 3 ∨ k = 4 ∨ k = 5 := by omega
 rcases this with rfl | rfl | rfl | rfl | rfl | rfl
 · exact ⟨a0, hs 0 (by simp), h0⟩
 · exact ⟨a1, hs 1 (by simp), h1⟩
 · exact ⟨a2, hs 2 (by simp), h2⟩
 · exact ⟨a3, hs 3 (by simp), h3⟩
 · exact ⟨a4, hs 4 (by simp), h4⟩
 · exact ⟨a5, hs 5 (by simp), h5⟩
@[go_sem ↓] theorem z91 (ρ : Operand → Value) (dst : Option Tmp) (parts : Array (Nat × Operand)) (ty : TypeId) (pos : String) (after : Array Edge) (guard : Option (Nat × Bool)) :
 execOp ρ { dst, op := .build 170 parts, type := ty, pos, after, guard } = za2 170 (parts.map fun (i, x) => (i, ρ x)) := rfl
@[go_sem ↓] theorem ycv (ρ : Operand → Value) (dst : Option Tmp) (x : Operand) (ty : TypeId) (pos : String) (after : Array Edge) (guard : Option (Nat × Bool)) :
 execOp ρ { dst, op := .load 170 x, type := ty, pos, after, guard } = za8 170 (ρ x) := rfl
@[go_sem ↓] theorem yap (ρ : Operand → Value) (dst : Option Tmp) (x y : Operand) (ty : TypeId) (pos : String) (after : Array Edge) (guard : Option (Nat × Bool)) :
 execOp ρ { dst, op := .store 170 x y, type := ty, pos, after, guard } = zas 170 (ρ x) (ρ y) := rfl
@[go_sem] theorem zm9 (w : World) (b o : Nat) (h : o + 280 ≤ (w.blk b).size) : (za8 170 (.pointer (some ⟨b, o, none⟩))).run Tryz.prog w = .ok (.value (.agg (sub (w.blk b) o 280))) w :=
 zaw w b o 170 280 (by kernel_rfl) (by kernel_rfl) h (by omega)
@[go_sem] theorem z0z (w : World) (b : Nat) (cs : Array Value) (h : (w.blk b).size = 280) (hc : cs.size = 280) (h1 : zal cs = true) (hf : w.free b = true) : (zas 170 (.pointer (some ⟨b, 0, none⟩)) (.agg cs)).run Tryz.prog w = .ok .skip (w.setRow b cs) :=
 zax w b 170 280 _ (by kernel_rfl) h hc (by omega) hf h1
theorem zog (w : World) (b : Nat) (h : (w.blk b).size = 280) : (loadVar 170 ⟨b, 0, none⟩).run Tryz.prog w = .ok (.agg (sub (w.blk b) 0 280)) w := by
 have := zm9 w b 0 (by omega)
 unfold za8 at this
 rw [Sem.run_bind] at this
 simp only [Instr.loadAt, Instr.sureAddr, Sem.run_bind, Sem.run_pure, Result.andThen_ok] at this
 cases hr : (loadVar 170 ⟨b, 0, none⟩).run Tryz.prog w with
 | ok v w' => rw [hr] at this; simp at this; rw [this.1, this.2]
 | halt x w' => rw [hr] at this; simp [Result.andThen] at this
theorem zow {fn : Func} {p : Tmp} (h : fn.results = #[.cell p 170]) (tmps : Array Value) (w : World) (b : Nat) (hp : tmps.getD p undef = .pointer (some ⟨b, 0, none⟩)) (h1 : (w.blk b).size = 280) :
 (results fn tmps).run Tryz.prog w = .ok (.agg (sub (w.blk b) 0 280)) w := by
 unfold results
 rw [h]
 have e1 := zog w b h1
 have hp' : tmps[p]?.getD undef = .pointer (some ⟨b, 0, none⟩) := by simpa using hp
 simp [asAddr, hp', e1]
@[go_sem ↓] theorem z92 (ρ : Operand → Value) (dst : Option Tmp) (parts : Array (Nat × Operand)) (ty : TypeId) (pos : String) (after : Array Edge) (guard : Option (Nat × Bool)) :
 execOp ρ { dst, op := .build 167 parts, type := ty, pos, after, guard } = za2 167 (parts.map fun (i, x) => (i, ρ x)) := rfl
@[go_sem ↓] theorem ycw (ρ : Operand → Value) (dst : Option Tmp) (x : Operand) (ty : TypeId) (pos : String) (after : Array Edge) (guard : Option (Nat × Bool)) :
 execOp ρ { dst, op := .load 167 x, type := ty, pos, after, guard } = za8 167 (ρ x) := rfl
@[go_sem ↓] theorem yaq (ρ : Operand → Value) (dst : Option Tmp) (x y : Operand) (ty : TypeId) (pos : String) (after : Array Edge) (guard : Option (Nat × Bool)) :
 execOp ρ { dst, op := .store 167 x y, type := ty, pos, after, guard } = zas 167 (ρ x) (ρ y) := rfl
@[go_sem] theorem zna (w : World) (b o : Nat) (h : o + 420 ≤ (w.blk b).size) : (za8 167 (.pointer (some ⟨b, o, none⟩))).run Tryz.prog w = .ok (.value (.agg (sub (w.blk b) o 420))) w :=
 zaw w b o 167 420 (by kernel_rfl) (by kernel_rfl) h (by omega)
@[go_sem] theorem z00 (w : World) (b : Nat) (cs : Array Value) (h : (w.blk b).size = 420) (hc : cs.size = 420) (h1 : zal cs = true) (hf : w.free b = true) : (zas 167 (.pointer (some ⟨b, 0, none⟩)) (.agg cs)).run Tryz.prog w = .ok .skip (w.setRow b cs) :=
 zax w b 167 420 _ (by kernel_rfl) h hc (by omega) hf h1
theorem zoh (w : World) (b : Nat) (h : (w.blk b).size = 420) : (loadVar 167 ⟨b, 0, none⟩).run Tryz.prog w = .ok (.agg (sub (w.blk b) 0 420)) w := by
 have := zna w b 0 (by omega)
 unfold za8 at this
 rw [Sem.run_bind] at this
 simp only [Instr.loadAt, Instr.sureAddr, Sem.run_bind, Sem.run_pure, Result.andThen_ok] at this
 cases hr : (loadVar 167 ⟨b, 0, none⟩).run Tryz.prog w with
 | ok v w' => rw [hr] at this; simp at this; rw [this.1, this.2]
 | halt x w' => rw [hr] at this; simp [Result.andThen] at this
theorem zox {fn : Func} {p : Tmp} (h : fn.results = #[.cell p 167]) (tmps : Array Value) (w : World) (b : Nat) (hp : tmps.getD p undef = .pointer (some ⟨b, 0, none⟩)) (h1 : (w.blk b).size = 420) :
 (results fn tmps).run Tryz.prog w = .ok (.agg (sub (w.blk b) 0 420)) w := by
 unfold results
 rw [h]
 have e1 := zoh w b h1
 have hp' : tmps[p]?.getD undef = .pointer (some ⟨b, 0, none⟩) := by simpa using hp
 simp [asAddr, hp', e1]
@[go_sem] theorem ybe (a b c d e : Array Value) : (zen [a, b, c, d, e]).size = a.size + (b.size + (c.size + (d.size + e.size))) := by simp [zen]
theorem z12 (a b c d e : Array Value) (ha : zal a = true) (hb : zal b = true) (hc : zal c = true) (hd : zal d = true) (he : zal e = true) : zal (zen [a, b, c, d, e]) = true := by
 refine zrf _ fun x hx => ?_
 simp at hx
 rcases hx with rfl | rfl | rfl | rfl | rfl <;> assumption
attribute [go_sem] z12
theorem z5e (a : Array Value) (n : Nat) (h : a.size = n) : sub a 0 n = a := by
 unfold sub; rw [Nat.zero_add, ← h, Array.extract_size]
attribute [go_sem] z5e
theorem zld (w : World) (a b c d e : Array Value) (ha : a.size = 56) (hb : b.size = 56) (hc : c.size = 56) (hd : d.size = 56) (he : e.size = 56) :
 (za2 170 #[(0, .agg a), (1, .agg b), (2, .agg c), (3, .agg d), (4, .agg e)]).run Tryz.prog w = .ok (.value (.agg (zen [a, b, c, d, e]))) w :=
 zg9 w 170 169 5 56 Tryz.t170 Tryz.underlying170 (by kernel_rfl) (by kernel_rfl) (by kernel_rfl) [a, b, c, d, e] rfl (by simp [ha, hb, hc, hd, he])
theorem zle (w : World) (a b c d e : Array Value) (ha : a.size = 84) (hb : b.size = 84) (hc : c.size = 84) (hd : d.size = 84) (he : e.size = 84) :
 (za2 167 #[(0, .agg a), (1, .agg b), (2, .agg c), (3, .agg d), (4, .agg e)]).run Tryz.prog w = .ok (.value (.agg (zen [a, b, c, d, e]))) w :=
 zg9 w 167 166 5 84 Tryz.t167 Tryz.underlying167 (by kernel_rfl) (by kernel_rfl) (by kernel_rfl) [a, b, c, d, e] rfl (by simp [ha, hb, hc, hd, he])
attribute [go_sem] zld zle
def RelAll (w : World) (n : Nat) (x : Array Value) : Prop := ∀ c k, c < 5 → k < 4 → ∃ a : AbV, sub (sub x (c * 56) 56) (k * 14) 14 = a.arr ∧ AbIs w n a (zcn c k)
theorem RelAll.of {w : World} {n : Nat} {a b c d e : Array Value} (ha : RelRow w n a 0) (hb : RelRow w n b 1) (hc : RelRow w n c 2) (hd : RelRow w n d 3) (he : RelRow w n e 4) : RelAll w n (zen [a, b, c, d, e]) := by
 have hs := zgo 56 [a, b, c, d, e] (by simp [ha.1, hb.1, hc.1, hd.1, he.1])
 intro i k hi hk
 have : i = 0 ∨ i = 1 ∨ i = 2 ∨ i = 3 ∨ i = 4 := by omega
 rcases this with rfl | rfl | rfl | rfl | rfl
 · rw [hs 0 (by simp)]; exact ha.2.2 k hk
 · rw [hs 1 (by simp)]; exact hb.2.2 k hk
 · rw [hs 2 (by simp)]; exact hc.2.2 k hk
 · rw [hs 3 (by simp)]; exact hd.2.2 k hk
 · rw [hs 4 (by simp)]; exact he.2.2 k hk
def SpAll (w : World) (n : Nat) (x : Array Value) : Prop := ∀ c k, c < 5 → k < 6 → ∃ a : AbV, sub (sub x (c * 84) 84) (k * 14) 14 = a.arr ∧ AbIs w n a (zbs c k)
theorem SpAll.of {w : World} {n : Nat} {a b c d e : Array Value} (ha : SpRow w n a 0) (hb : SpRow w n b 1) (hc : SpRow w n c 2) (hd : SpRow w n d 3) (he : SpRow w n e 4) : SpAll w n (zen [a, b, c, d, e]) := by
 have hs := zgo 84 [a, b, c, d, e] (by simp [ha.1, hb.1, hc.1, hd.1, he.1])
 intro i k hi hk
 have : i = 0 ∨ i = 1 ∨ i = 2 ∨ i = 3 ∨ i = 4 := by omega
 rcases this with rfl | rfl | rfl | rfl | rfl
 · rw [hs 0 (by simp)]; exact ha.2.2 k hk
 · rw [hs 1 (by simp)]; exact hb.2.2 k hk
 · rw [hs 2 (by simp)]; exact hc.2.2 k hk
 · rw [hs 3 (by simp)]; exact hd.2.2 k hk
 · rw [hs 4 (by simp)]; exact he.2.2 k hk
set_option maxRecDepth 100000 in
set_option maxHeartbeats 1000000 in
theorem zuf (w : World) : Calls Tryz.prog 155 #[] w fun r w' => ∃ x, r = .returned (.agg x) ∧ RelAll w' w.heap.size x ∧ Grow w w' := by
 go_enter Tryz.func155, Tryz.ntmps155
 go_wp2_with (first
  | (go_at_call 206; refine (zk1 _).mono ?_; rintro e' w' ⟨hr, nx, rfl⟩; obtain ⟨r0, rfl, hq⟩ := hr.row; clear hr; have s0 := hq.1; have o0 := hq.2.1; (try simp only [zad] at hq); (try simp only [zac] at hq); have H0 := Lib.hid hq; clear hq)
  | (go_at_call 207; refine (zk4 _).mono ?_; rintro e' w' ⟨hr, nx, rfl⟩; obtain ⟨r1, rfl, hq⟩ := hr.row; clear hr; have s1 := hq.1; have o1 := hq.2.1; (try simp only [zad] at hq); (try simp only [zac] at hq); have H1 := Lib.hid hq; clear hq)
  | (go_at_call 208; refine (zj5 _).mono ?_; rintro e' w' ⟨hr, nx, rfl⟩; obtain ⟨r2, rfl, hq⟩ := hr.row; clear hr; have s2 := hq.1; have o2 := hq.2.1; (try simp only [zad] at hq); (try simp only [zac] at hq); have H2 := Lib.hid hq; clear hq)
  | (go_at_call 209; refine (zmu _).mono ?_; rintro e' w' ⟨hr, nx, rfl⟩; obtain ⟨r3, rfl, hq⟩ := hr.row; clear hr; have s3 := hq.1; have o3 := hq.2.1; (try simp only [zad] at hq); (try simp only [zac] at hq); have H3 := Lib.hid hq; clear hq)
  | (go_at_call 210; refine (zkj _).mono ?_; rintro e' w' ⟨hr, nx, rfl⟩; obtain ⟨r4, rfl, hq⟩ := hr.row; clear hr; have s4 := hq.1; have o4 := hq.2.1; (try simp only [zad] at hq); (try simp only [zac] at hq); have H4 := Lib.hid hq; clear hq))
 refine bodyPost_ret (zow rfl _ _ _ rfl ?_) rfl ?_
 · go_simp
 · rename_i x3 x2 x1 x0
   refine ⟨zen [r0, r1, r2, r3, r4], by go_simp, RelAll.of (H0.out.to (b := w.heap.size) (w1 := ((w.alloc (Obj.cells Tryz.zeroCells170 170)).plus ((((x3.and x2).and x1).and x0).and nx))) grI (by repeat (first | exact Off.base _ _ _ _ rfl | refine Off.plus ?_ _ | refine Off.alloc ?_ _)) (by first | (go_simp; done) | (go_simp; omega) | (simp only [Sl.b]; go_simp; omega)) (by first | (go_simp; done) | (go_simp; omega) | (simp only [Sl.b]; go_simp; omega))) (H1.out.to (b := w.heap.size) (w1 := ((w.alloc (Obj.cells Tryz.zeroCells170 170)).plus ((((x3.and x2).and x1).and x0).and nx))) grI (by repeat (first | exact Off.base _ _ _ _ rfl | refine Off.plus ?_ _ | refine Off.alloc ?_ _)) (by first | (go_simp; done) | (go_simp; omega) | (simp only [Sl.b]; go_simp; omega)) (by first | (go_simp; done) | (go_simp; omega) | (simp only [Sl.b]; go_simp; omega))) (H2.out.to (b := w.heap.size) (w1 := ((w.alloc (Obj.cells Tryz.zeroCells170 170)).plus ((((x3.and x2).and x1).and x0).and nx))) grI (by repeat (first | exact Off.base _ _ _ _ rfl | refine Off.plus ?_ _ | refine Off.alloc ?_ _)) (by first | (go_simp; done) | (go_simp; omega) | (simp only [Sl.b]; go_simp; omega)) (by first | (go_simp; done) | (go_simp; omega) | (simp only [Sl.b]; go_simp; omega))) (H3.out.to (b := w.heap.size) (w1 := ((w.alloc (Obj.cells Tryz.zeroCells170 170)).plus ((((x3.and x2).and x1).and x0).and nx))) grI (by repeat (first | exact Off.base _ _ _ _ rfl | refine Off.plus ?_ _ | refine Off.alloc ?_ _)) (by first | (go_simp; done) | (go_simp; omega) | (simp only [Sl.b]; go_simp; omega)) (by first | (go_simp; done) | (go_simp; omega) | (simp only [Sl.b]; go_simp; omega))) (H4.out.to (b := w.heap.size) (w1 := ((w.alloc (Obj.cells Tryz.zeroCells170 170)).plus ((((x3.and x2).and x1).and x0).and nx))) grI (by repeat (first | exact Off.base _ _ _ _ rfl | refine Off.plus ?_ _ | refine Off.alloc ?_ _)) (by first | (go_simp; done) | (go_simp; omega) | (simp only [Sl.b]; go_simp; omega)) (by first | (go_simp; done) | (go_simp; omega) | (simp only [Sl.b]; go_simp; omega))), grI⟩
set_option maxRecDepth 100000 in
set_option maxHeartbeats 1000000 in
theorem zvf (w : World) : Calls Tryz.prog 154 #[] w fun r w' => ∃ x, r = .returned (.agg x) ∧ SpAll w' w.heap.size x ∧ Grow w w' := by
 go_enter Tryz.func154, Tryz.ntmps154
 go_wp2_with (first
  | (go_at_call 201; refine (zk2 _).mono ?_; rintro e' w' ⟨hr, nx, rfl⟩; obtain ⟨r0, rfl, hq⟩ := hr.row; clear hr; have s0 := hq.1; have o0 := hq.2.1; (try simp only [zad] at hq); (try simp only [zac] at hq); have H0 := Lib.hid hq; clear hq)
  | (go_at_call 202; refine (zk5 _).mono ?_; rintro e' w' ⟨hr, nx, rfl⟩; obtain ⟨r1, rfl, hq⟩ := hr.row; clear hr; have s1 := hq.1; have o1 := hq.2.1; (try simp only [zad] at hq); (try simp only [zac] at hq); have H1 := Lib.hid hq; clear hq)
  | (go_at_call 203; refine (zj6 _).mono ?_; rintro e' w' ⟨hr, nx, rfl⟩; obtain ⟨r2, rfl, hq⟩ := hr.row; clear hr; have s2 := hq.1; have o2 := hq.2.1; (try simp only [zad] at hq); (try simp only [zac] at hq); have H2 := Lib.hid hq; clear hq)
  | (go_at_call 204; refine (zmv _).mono ?_; rintro e' w' ⟨hr, nx, rfl⟩; obtain ⟨r3, rfl, hq⟩ := hr.row; clear hr; have s3 := hq.1; have o3 := hq.2.1; (try simp only [zad] at hq); (try simp only [zac] at hq); have H3 := Lib.hid hq; clear hq)
  | (go_at_call 205; refine (zkk _).mono ?_; rintro e' w' ⟨hr, nx, rfl⟩; obtain ⟨r4, rfl, hq⟩ := hr.row; clear hr; have s4 := hq.1; have o4 := hq.2.1; (try simp only [zad] at hq); (try simp only [zac] at hq); have H4 := Lib.hid hq; clear hq))
 refine bodyPost_ret (zox rfl _ _ _ rfl ?_) rfl ?_
 · go_simp
 · rename_i x3 x2 x1 x0
   refine ⟨zen [r0, r1, r2, r3, r4], by go_simp, SpAll.of (H0.out.to (b := w.heap.size) (w1 := ((w.alloc (Obj.cells Tryz.zeroCells167 167)).plus ((((x3.and x2).and x1).and x0).and nx))) grI (by repeat (first | exact Off.base _ _ _ _ rfl | refine Off.plus ?_ _ | refine Off.alloc ?_ _)) (by first | (go_simp; done) | (go_simp; omega) | (simp only [Sl.b]; go_simp; omega)) (by first | (go_simp; done) | (go_simp; omega) | (simp only [Sl.b]; go_simp; omega))) (H1.out.to (b := w.heap.size) (w1 := ((w.alloc (Obj.cells Tryz.zeroCells167 167)).plus ((((x3.and x2).and x1).and x0).and nx))) grI (by repeat (first | exact Off.base _ _ _ _ rfl | refine Off.plus ?_ _ | refine Off.alloc ?_ _)) (by first | (go_simp; done) | (go_simp; omega) | (simp only [Sl.b]; go_simp; omega)) (by first | (go_simp; done) | (go_simp; omega) | (simp only [Sl.b]; go_simp; omega))) (H2.out.to (b := w.heap.size) (w1 := ((w.alloc (Obj.cells Tryz.zeroCells167 167)).plus ((((x3.and x2).and x1).and x0).and nx))) grI (by repeat (first | exact Off.base _ _ _ _ rfl | refine Off.plus ?_ _ | refine Off.alloc ?_ _)) (by first | (go_simp; done) | (go_simp; omega) | (simp only [Sl.b]; go_simp; omega)) (by first | (go_simp; done) | (go_simp; omega) | (simp only [Sl.b]; go_simp; omega))) (H3.out.to (b := w.heap.size) (w1 := ((w.alloc (Obj.cells Tryz.zeroCells167 167)).plus ((((x3.and x2).and x1).and x0).and nx))) grI (by repeat (first | exact Off.base _ _ _ _ rfl | refine Off.plus ?_ _ | refine Off.alloc ?_ _)) (by first | (go_simp; done) | (go_simp; omega) | (simp only [Sl.b]; go_simp; omega)) (by first | (go_simp; done) | (go_simp; omega) | (simp only [Sl.b]; go_simp; omega))) (H4.out.to (b := w.heap.size) (w1 := ((w.alloc (Obj.cells Tryz.zeroCells167 167)).plus ((((x3.and x2).and x1).and x0).and nx))) grI (by repeat (first | exact Off.base _ _ _ _ rfl | refine Off.plus ?_ _ | refine Off.alloc ?_ _)) (by first | (go_simp; done) | (go_simp; omega) | (simp only [Sl.b]; go_simp; omega)) (by first | (go_simp; done) | (go_simp; omega) | (simp only [Sl.b]; go_simp; omega))), grI⟩
end Go.Proofs.YtgobdndjemicjaaGreatDoor
