/-
  The spells of each colour.
-/
import Derived.Test.YtnjclibennadcaaGreatDoorMCard
namespace Go.Proofs.YtnjclibennadcaaGreatDoor
open Go Go.RowKit

@[go_sem ↓] theorem build_ab6 (ρ : Operand → Value) (dst : Option Tmp) (parts : Array (Nat × Operand)) (ty : TypeId) (pos : String) (after : Array Edge) (guard : Option (Nat × Bool)) :
    execOp ρ { dst, op := .build 221 parts, type := ty, pos, after, guard } = bdRow 221 (parts.map fun (i, x) => (i, ρ x)) := rfl
@[go_sem ↓] theorem load_ab6 (ρ : Operand → Value) (dst : Option Tmp) (x : Operand) (ty : TypeId) (pos : String) (after : Array Edge) (guard : Option (Nat × Bool)) :
    execOp ρ { dst, op := .load 221 x, type := ty, pos, after, guard } = ldRow 221 (ρ x) := rfl
@[go_sem ↓] theorem store_ab6 (ρ : Operand → Value) (dst : Option Tmp) (x y : Operand) (ty : TypeId) (pos : String) (after : Array Edge) (guard : Option (Nat × Bool)) :
    execOp ρ { dst, op := .store 221 x y, type := ty, pos, after, guard } = stRow 221 (ρ x) (ρ y) := rfl
@[go_sem] theorem run_load_ab6 (w : World) (b o : Nat) (h : o + 84 ≤ (w.blk b).size) : (ldRow 221 (.pointer (some ⟨b, o, none⟩))).run Tryz.prog w = .ok (.value (.agg (sub (w.blk b) o 84))) w :=
  run_ldSub w b o 221 84 (by kernel_rfl) (by kernel_rfl) h (by omega)
@[go_sem] theorem run_store_ab6 (w : World) (b : Nat) (cs : Array Value) (h : (w.blk b).size = 84) (hc : cs.size = 84) (h1 : oneCells cs = true) (hf : w.free b = true) : (stRow 221 (.pointer (some ⟨b, 0, none⟩)) (.agg cs)).run Tryz.prog w = .ok .skip (w.setRow b cs) :=
  run_stRow w b 221 84 _ (by kernel_rfl) h hc (by omega) hf h1
theorem loadVar_ab6 (w : World) (b : Nat) (h : (w.blk b).size = 84) : (loadVar 221 ⟨b, 0, none⟩).run Tryz.prog w = .ok (.agg (sub (w.blk b) 0 84)) w := by
  have := run_load_ab6 w b 0 (by omega)
  unfold ldRow at this
  rw [Sem.run_bind] at this
  simp only [Instr.loadAt, Instr.sureAddr, Sem.run_bind, Sem.run_pure, Result.andThen_ok] at this
  cases hr : (loadVar 221 ⟨b, 0, none⟩).run Tryz.prog w with
  | ok v w' => rw [hr] at this; simp at this; rw [this.1, this.2]
  | halt x w' => rw [hr] at this; simp [Result.andThen] at this
theorem results_ab6 {fn : Func} {p : Tmp} (h : fn.results = #[.cell p 221]) (tmps : Array Value) (w : World) (b : Nat) (hp : tmps.getD p undef = .pointer (some ⟨b, 0, none⟩)) (h1 : (w.blk b).size = 84) :
    (results fn tmps).run Tryz.prog w = .ok (.agg (sub (w.blk b) 0 84)) w := by
  unfold results
  rw [h]
  have e1 := loadVar_ab6 w b h1
  have hp' : tmps[p]?.getD undef = .pointer (some ⟨b, 0, none⟩) := by simpa using hp
  simp [asAddr, hp', e1]
@[go_sem] theorem ab6_size (a b c d e f : AbV) : (catV [a.arr, b.arr, c.arr, d.arr, e.arr, f.arr]).size = 84 := by simp [catV, AbV.arr]
@[go_sem] theorem ab6_one (a b c d e f : AbV) : oneCells (catV [a.arr, b.arr, c.arr, d.arr, e.arr, f.arr]) = true := by
  have h1 := AbV.one a; have h2 := AbV.one b; have h3 := AbV.one c; have h4 := AbV.one d; have h5 := AbV.one e; have h6 := AbV.one f
  unfold oneCells at *
  simp [catV, h1, h2, h3, h4, h5, h6]
@[go_sem] theorem ab6_all (a b c d e f : AbV) : sub (catV [a.arr, b.arr, c.arr, d.arr, e.arr, f.arr]) 0 84 = catV [a.arr, b.arr, c.arr, d.arr, e.arr, f.arr] := by
  unfold sub; rw [Nat.zero_add, ← ab6_size a b c d e f, Array.extract_size]
theorem run_build_ab6 (w : World) (a b c d e f : AbV) : (bdRow 221 #[(0, .agg a.arr), (1, .agg b.arr), (2, .agg c.arr), (3, .agg d.arr), (4, .agg e.arr), (5, .agg f.arr)]).run Tryz.prog w = .ok (.value (.agg (catV [a.arr, b.arr, c.arr, d.arr, e.arr, f.arr]))) w := by
  obtain ⟨a0, a1, a2, a3, a4, a5, a6, a7, a8, ⟨a9, a10, a11, a12, sa⟩⟩ := a
  obtain ⟨b0, b1, b2, b3, b4, b5, b6, b7, b8, ⟨b9, b10, b11, b12, sb⟩⟩ := b
  obtain ⟨c0, c1, c2, c3, c4, c5, c6, c7, c8, ⟨c9, c10, c11, c12, sc⟩⟩ := c
  obtain ⟨d0, d1, d2, d3, d4, d5, d6, d7, d8, ⟨d9, d10, d11, d12, sd⟩⟩ := d
  obtain ⟨e0, e1, e2, e3, e4, e5, e6, e7, e8, ⟨e9, e10, e11, e12, se⟩⟩ := e
  obtain ⟨f0, f1, f2, f3, f4, f5, f6, f7, f8, ⟨f9, f10, f11, f12, sf⟩⟩ := f
  cases sa <;> cases sb <;> cases sc <;> cases sd <;> cases se <;> cases sf <;> kernel_rfl
attribute [go_sem] run_build_ab6
@[go_sem] theorem run_build_effectIf (w : World) (a b : Int) (k o n c : Nat) : (bdRow 65 #[(0, .int .i64 a), (2, .int .i64 b), (4, .slice (some ⟨k, o, none⟩) n c)]).run Tryz.prog w = .ok (.value (.agg (EfV.arr ⟨a, 0, b, 0, .mk k o n c⟩))) w := by kernel_rfl
theorem seq_any' (w : World) (b o n c : Nat) : Calls Tryz.prog 254 #[.slice (some ⟨b, o, none⟩) n c] w fun r w' => r = .returned (.agg (EfV.arr ⟨21, 0, 0, 0, .mk b o n c⟩)) ∧ Grow w w' := seq_any w (.mk b o n c)
/-- The spells of one colour stand so. -/
def Spell6 (r : Ending) : Prop := ∃ a b c d e f : AbV, r = .returned (.agg (catV [a.arr, b.arr, c.arr, d.arr, e.arr, f.arr])) ∧ a.wh = 0 ∧ b.wh = 0 ∧ c.wh = 0 ∧ d.wh = 0 ∧ e.wh = 0 ∧ f.wh = 0
set_option maxRecDepth 100000 in
set_option maxHeartbeats 2000000 in
theorem whiteSpells_any (w : World) : Calls Tryz.prog 231 #[] w fun r w' => Spell6 r ∧ Grow w w' := by
  go_enter Tryz.func231, Tryz.ntmps231
  go_wp2_with (first | (go_at_call 229; refine (tdo_any _ _ _ _ _).mono ?_; rintro e' w' ⟨rfl, nx, rfl⟩) | (go_at_call 252; refine (aim_any _ _ _).mono ?_; rintro e' w' ⟨rfl, nx, rfl⟩) | (go_at_call 253; refine (every_any _ _ _ _ _).mono ?_; rintro e' w' ⟨s1, rfl, _, nx, rfl⟩) | (go_at_call 254; refine (seq_any' _ _ _ _ _).mono ?_; rintro e' w' ⟨rfl, nx, rfl⟩))
  refine bodyPost_ret (results_ab6 rfl _ _ _ rfl ?_) rfl ?_
  · go_simp
  · exact ⟨⟨_, _, _, _, _, _, by (go_simp; first | rfl | exact ⟨rfl, rfl, rfl, rfl, rfl, rfl⟩), rfl, rfl, rfl, rfl, rfl, rfl⟩, grI⟩
set_option maxRecDepth 100000 in
set_option maxHeartbeats 2000000 in
theorem blueSpells_any (w : World) : Calls Tryz.prog 232 #[] w fun r w' => Spell6 r ∧ Grow w w' := by
  go_enter Tryz.func232, Tryz.ntmps232
  go_wp2_with (first | (go_at_call 229; refine (tdo_any _ _ _ _ _).mono ?_; rintro e' w' ⟨rfl, nx, rfl⟩) | (go_at_call 252; refine (aim_any _ _ _).mono ?_; rintro e' w' ⟨rfl, nx, rfl⟩) | (go_at_call 253; refine (every_any _ _ _ _ _).mono ?_; rintro e' w' ⟨s1, rfl, _, nx, rfl⟩) | (go_at_call 254; refine (seq_any' _ _ _ _ _).mono ?_; rintro e' w' ⟨rfl, nx, rfl⟩))
  refine bodyPost_ret (results_ab6 rfl _ _ _ rfl ?_) rfl ?_
  · go_simp
  · exact ⟨⟨_, _, _, _, _, _, by (go_simp; first | rfl | exact ⟨rfl, rfl, rfl, rfl, rfl, rfl⟩), rfl, rfl, rfl, rfl, rfl, rfl⟩, grI⟩
set_option maxRecDepth 100000 in
set_option maxHeartbeats 2000000 in
theorem blackSpells_any (w : World) : Calls Tryz.prog 233 #[] w fun r w' => Spell6 r ∧ Grow w w' := by
  go_enter Tryz.func233, Tryz.ntmps233
  go_wp2_with (first | (go_at_call 229; refine (tdo_any _ _ _ _ _).mono ?_; rintro e' w' ⟨rfl, nx, rfl⟩) | (go_at_call 252; refine (aim_any _ _ _).mono ?_; rintro e' w' ⟨rfl, nx, rfl⟩) | (go_at_call 253; refine (every_any _ _ _ _ _).mono ?_; rintro e' w' ⟨s1, rfl, _, nx, rfl⟩) | (go_at_call 254; refine (seq_any' _ _ _ _ _).mono ?_; rintro e' w' ⟨rfl, nx, rfl⟩))
  refine bodyPost_ret (results_ab6 rfl _ _ _ rfl ?_) rfl ?_
  · go_simp
  · exact ⟨⟨_, _, _, _, _, _, by (go_simp; first | rfl | exact ⟨rfl, rfl, rfl, rfl, rfl, rfl⟩), rfl, rfl, rfl, rfl, rfl, rfl⟩, grI⟩
set_option maxRecDepth 100000 in
set_option maxHeartbeats 2000000 in
theorem redSpells_any (w : World) : Calls Tryz.prog 234 #[] w fun r w' => Spell6 r ∧ Grow w w' := by
  go_enter Tryz.func234, Tryz.ntmps234
  go_wp2_with (first | (go_at_call 229; refine (tdo_any _ _ _ _ _).mono ?_; rintro e' w' ⟨rfl, nx, rfl⟩) | (go_at_call 252; refine (aim_any _ _ _).mono ?_; rintro e' w' ⟨rfl, nx, rfl⟩) | (go_at_call 253; refine (every_any _ _ _ _ _).mono ?_; rintro e' w' ⟨s1, rfl, _, nx, rfl⟩) | (go_at_call 254; refine (seq_any' _ _ _ _ _).mono ?_; rintro e' w' ⟨rfl, nx, rfl⟩))
  refine bodyPost_ret (results_ab6 rfl _ _ _ rfl ?_) rfl ?_
  · go_simp
  · exact ⟨⟨_, _, _, _, _, _, by (go_simp; first | rfl | exact ⟨rfl, rfl, rfl, rfl, rfl, rfl⟩), rfl, rfl, rfl, rfl, rfl, rfl⟩, grI⟩
set_option maxRecDepth 100000 in
set_option maxHeartbeats 2000000 in
theorem greenSpells_any (w : World) : Calls Tryz.prog 235 #[] w fun r w' => Spell6 r ∧ Grow w w' := by
  go_enter Tryz.func235, Tryz.ntmps235
  go_wp2_with (first | (go_at_call 229; refine (tdo_any _ _ _ _ _).mono ?_; rintro e' w' ⟨rfl, nx, rfl⟩) | (go_at_call 252; refine (aim_any _ _ _).mono ?_; rintro e' w' ⟨rfl, nx, rfl⟩) | (go_at_call 253; refine (every_any _ _ _ _ _).mono ?_; rintro e' w' ⟨s1, rfl, _, nx, rfl⟩) | (go_at_call 254; refine (seq_any' _ _ _ _ _).mono ?_; rintro e' w' ⟨rfl, nx, rfl⟩))
  refine bodyPost_ret (results_ab6 rfl _ _ _ rfl ?_) rfl ?_
  · go_simp
  · exact ⟨⟨_, _, _, _, _, _, by (go_simp; first | rfl | exact ⟨rfl, rfl, rfl, rfl, rfl, rfl⟩), rfl, rfl, rfl, rfl, rfl, rfl⟩, grI⟩
end Go.Proofs.YtnjclibennadcaaGreatDoor
