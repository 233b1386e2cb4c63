/-
  The spells of each colour.
  All relics and all spells, by colour and place.
-/
import Derived.Test.YtkbghjfagnjpoaaGreatDoorMCard
import Derived.Test.YtkbghjfagnjpoaaGreatDoorMRelics
namespace Go.Proofs.YtkbghjfagnjpoaaGreatDoor
open Go Go.RowKit

@[go_sem ↓] theorem build_ab6 (ρ : Operand → Value) (dst : Option Tmp) (parts : Array (Nat × Operand)) (ty : TypeId) (pos : String) (after : Array Edge) (guard : Option (Nat × Bool)) :
    execOp ρ { dst, op := .build 141 parts, type := ty, pos, after, guard } = bdRow 141 (parts.map fun (i, x) => (i, ρ x)) := rfl
@[go_sem ↓] theorem load_ab6 (ρ : Operand → Value) (dst : Option Tmp) (x : Operand) (ty : TypeId) (pos : String) (after : Array Edge) (guard : Option (Nat × Bool)) :
    execOp ρ { dst, op := .load 141 x, type := ty, pos, after, guard } = ldRow 141 (ρ x) := rfl
@[go_sem ↓] theorem store_ab6 (ρ : Operand → Value) (dst : Option Tmp) (x y : Operand) (ty : TypeId) (pos : String) (after : Array Edge) (guard : Option (Nat × Bool)) :
    execOp ρ { dst, op := .store 141 x y, type := ty, pos, after, guard } = stRow 141 (ρ x) (ρ y) := rfl
@[go_sem] theorem run_load_ab6 (w : World) (b o : Nat) (h : o + 84 ≤ (w.blk b).size) : (ldRow 141 (.pointer (some ⟨b, o, none⟩))).run Tryz.prog w = .ok (.value (.agg (sub (w.blk b) o 84))) w :=
  run_ldSub w b o 141 84 (by kernel_rfl) (by kernel_rfl) h (by omega)
@[go_sem] theorem run_store_ab6 (w : World) (b : Nat) (cs : Array Value) (h : (w.blk b).size = 84) (hc : cs.size = 84) (h1 : oneCells cs = true) (hf : w.free b = true) : (stRow 141 (.pointer (some ⟨b, 0, none⟩)) (.agg cs)).run Tryz.prog w = .ok .skip (w.setRow b cs) :=
  run_stRow w b 141 84 _ (by kernel_rfl) h hc (by omega) hf h1
theorem loadVar_ab6 (w : World) (b : Nat) (h : (w.blk b).size = 84) : (loadVar 141 ⟨b, 0, none⟩).run Tryz.prog w = .ok (.agg (sub (w.blk b) 0 84)) w := by
  have := run_load_ab6 w b 0 (by omega)
  unfold ldRow at this
  rw [Sem.run_bind] at this
  simp only [Instr.loadAt, Instr.sureAddr, Sem.run_bind, Sem.run_pure, Result.andThen_ok] at this
  cases hr : (loadVar 141 ⟨b, 0, none⟩).run Tryz.prog w with
  | ok v w' => rw [hr] at this; simp at this; rw [this.1, this.2]
  | halt x w' => rw [hr] at this; simp [Result.andThen] at this
theorem results_ab6 {fn : Func} {p : Tmp} (h : fn.results = #[.cell p 141]) (tmps : Array Value) (w : World) (b : Nat) (hp : tmps.getD p undef = .pointer (some ⟨b, 0, none⟩)) (h1 : (w.blk b).size = 84) :
    (results fn tmps).run Tryz.prog w = .ok (.agg (sub (w.blk b) 0 84)) w := by
  unfold results
  rw [h]
  have e1 := loadVar_ab6 w b h1
  have hp' : tmps[p]?.getD undef = .pointer (some ⟨b, 0, none⟩) := by simpa using hp
  simp [asAddr, hp', e1]
@[go_sem] theorem ab6_size (a b c d e f : AbV) : (catV [a.arr, b.arr, c.arr, d.arr, e.arr, f.arr]).size = 84 := by simp [catV, AbV.arr]
@[go_sem] theorem ab6_one (a b c d e f : AbV) : oneCells (catV [a.arr, b.arr, c.arr, d.arr, e.arr, f.arr]) = true := by
  have h1 := AbV.one a; have h2 := AbV.one b; have h3 := AbV.one c; have h4 := AbV.one d; have h5 := AbV.one e; have h6 := AbV.one f
  unfold oneCells at *
  simp [catV, h1, h2, h3, h4, h5, h6]
@[go_sem] theorem ab6_all (a b c d e f : AbV) : sub (catV [a.arr, b.arr, c.arr, d.arr, e.arr, f.arr]) 0 84 = catV [a.arr, b.arr, c.arr, d.arr, e.arr, f.arr] := by
  unfold sub; rw [Nat.zero_add, ← ab6_size a b c d e f, Array.extract_size]
theorem run_build_ab6 (w : World) (a b c d e f : AbV) : (bdRow 141 #[(0, .agg a.arr), (1, .agg b.arr), (2, .agg c.arr), (3, .agg d.arr), (4, .agg e.arr), (5, .agg f.arr)]).run Tryz.prog w = .ok (.value (.agg (catV [a.arr, b.arr, c.arr, d.arr, e.arr, f.arr]))) w := by
  obtain ⟨a0, a1, a2, a3, a4, a5, a6, a7, a8, ⟨a9, a10, a11, a12, sa⟩⟩ := a
  obtain ⟨b0, b1, b2, b3, b4, b5, b6, b7, b8, ⟨b9, b10, b11, b12, sb⟩⟩ := b
  obtain ⟨c0, c1, c2, c3, c4, c5, c6, c7, c8, ⟨c9, c10, c11, c12, sc⟩⟩ := c
  obtain ⟨d0, d1, d2, d3, d4, d5, d6, d7, d8, ⟨d9, d10, d11, d12, sd⟩⟩ := d
  obtain ⟨e0, e1, e2, e3, e4, e5, e6, e7, e8, ⟨e9, e10, e11, e12, se⟩⟩ := e
  obtain ⟨f0, f1, f2, f3, f4, f5, f6, f7, f8, ⟨f9, f10, f11, f12, sf⟩⟩ := f
  cases sa <;> cases sb <;> cases sc <;> cases sd <;> cases se <;> cases sf <;> kernel_rfl
attribute [go_sem] run_build_ab6
@[go_sem] theorem run_build_effectIf (w : World) (a b : Int) (k o n c : Nat) : (bdRow 36 #[(0, .int .i64 a), (2, .int .i64 b), (4, .slice (some ⟨k, o, none⟩) n c)]).run Tryz.prog w = .ok (.value (.agg (EfV.arr ⟨a, 0, b, 0, .mk k o n c⟩))) w := by kernel_rfl
theorem seq_any' (w : World) (b o n c : Nat) : Calls Tryz.prog 166 #[.slice (some ⟨b, o, none⟩) n c] w fun r w' => r = .returned (.agg (EfV.arr ⟨21, 0, 0, 0, .mk b o n c⟩)) ∧ Grow w w' := seq_any w (.mk b o n c)
/-- The spells of one colour stand so. -/
def Spell6 (r : Ending) : Prop := ∃ a b c d e f : AbV, r = .returned (.agg (catV [a.arr, b.arr, c.arr, d.arr, e.arr, f.arr])) ∧ a.wh = 0 ∧ b.wh = 0 ∧ c.wh = 0 ∧ d.wh = 0 ∧ e.wh = 0 ∧ f.wh = 0
set_option maxRecDepth 100000 in
set_option maxHeartbeats 2000000 in
theorem whiteSpells_any (w : World) : Calls Tryz.prog 140 #[] w fun r w' => Spell6 r ∧ Grow w w' := by
  go_enter Tryz.func140, Tryz.ntmps140
  go_wp2_with (first | (go_at_call 138; refine (tdo_any _ _ _ _ _).mono ?_; rintro e' w' ⟨rfl, nx, rfl⟩) | (go_at_call 164; refine (aim_any _ _ _).mono ?_; rintro e' w' ⟨rfl, nx, rfl⟩) | (go_at_call 165; refine (every_any _ _ _ _ _).mono ?_; rintro e' w' ⟨s1, rfl, _, nx, rfl⟩) | (go_at_call 166; refine (seq_any' _ _ _ _ _).mono ?_; rintro e' w' ⟨rfl, nx, rfl⟩))
  refine bodyPost_ret (results_ab6 rfl _ _ _ rfl ?_) rfl ?_
  · go_simp
  · exact ⟨⟨_, _, _, _, _, _, by (go_simp; first | rfl | exact ⟨rfl, rfl, rfl, rfl, rfl, rfl⟩), rfl, rfl, rfl, rfl, rfl, rfl⟩, grI⟩
set_option maxRecDepth 100000 in
set_option maxHeartbeats 2000000 in
theorem blueSpells_any (w : World) : Calls Tryz.prog 141 #[] w fun r w' => Spell6 r ∧ Grow w w' := by
  go_enter Tryz.func141, Tryz.ntmps141
  go_wp2_with (first | (go_at_call 138; refine (tdo_any _ _ _ _ _).mono ?_; rintro e' w' ⟨rfl, nx, rfl⟩) | (go_at_call 164; refine (aim_any _ _ _).mono ?_; rintro e' w' ⟨rfl, nx, rfl⟩) | (go_at_call 165; refine (every_any _ _ _ _ _).mono ?_; rintro e' w' ⟨s1, rfl, _, nx, rfl⟩) | (go_at_call 166; refine (seq_any' _ _ _ _ _).mono ?_; rintro e' w' ⟨rfl, nx, rfl⟩))
  refine bodyPost_ret (results_ab6 rfl _ _ _ rfl ?_) rfl ?_
  · go_simp
  · exact ⟨⟨_, _, _, _, _, _, by (go_simp; first | rfl | exact ⟨rfl, rfl, rfl, rfl, rfl, rfl⟩), rfl, rfl, rfl, rfl, rfl, rfl⟩, grI⟩
set_option maxRecDepth 100000 in
set_option maxHeartbeats 2000000 in
theorem blackSpells_any (w : World) : Calls Tryz.prog 142 #[] w fun r w' => Spell6 r ∧ Grow w w' := by
  go_enter Tryz.func142, Tryz.ntmps142
  go_wp2_with (first | (go_at_call 138; refine (tdo_any _ _ _ _ _).mono ?_; rintro e' w' ⟨rfl, nx, rfl⟩) | (go_at_call 164; refine (aim_any _ _ _).mono ?_; rintro e' w' ⟨rfl, nx, rfl⟩) | (go_at_call 165; refine (every_any _ _ _ _ _).mono ?_; rintro e' w' ⟨s1, rfl, _, nx, rfl⟩) | (go_at_call 166; refine (seq_any' _ _ _ _ _).mono ?_; rintro e' w' ⟨rfl, nx, rfl⟩))
  refine bodyPost_ret (results_ab6 rfl _ _ _ rfl ?_) rfl ?_
  · go_simp
  · exact ⟨⟨_, _, _, _, _, _, by (go_simp; first | rfl | exact ⟨rfl, rfl, rfl, rfl, rfl, rfl⟩), rfl, rfl, rfl, rfl, rfl, rfl⟩, grI⟩
set_option maxRecDepth 100000 in
set_option maxHeartbeats 2000000 in
theorem redSpells_any (w : World) : Calls Tryz.prog 143 #[] w fun r w' => Spell6 r ∧ Grow w w' := by
  go_enter Tryz.func143, Tryz.ntmps143
  go_wp2_with (first | (go_at_call 138; refine (tdo_any _ _ _ _ _).mono ?_; rintro e' w' ⟨rfl, nx, rfl⟩) | (go_at_call 164; refine (aim_any _ _ _).mono ?_; rintro e' w' ⟨rfl, nx, rfl⟩) | (go_at_call 165; refine (every_any _ _ _ _ _).mono ?_; rintro e' w' ⟨s1, rfl, _, nx, rfl⟩) | (go_at_call 166; refine (seq_any' _ _ _ _ _).mono ?_; rintro e' w' ⟨rfl, nx, rfl⟩))
  refine bodyPost_ret (results_ab6 rfl _ _ _ rfl ?_) rfl ?_
  · go_simp
  · exact ⟨⟨_, _, _, _, _, _, by (go_simp; first | rfl | exact ⟨rfl, rfl, rfl, rfl, rfl, rfl⟩), rfl, rfl, rfl, rfl, rfl, rfl⟩, grI⟩
set_option maxRecDepth 100000 in
set_option maxHeartbeats 2000000 in
theorem greenSpells_any (w : World) : Calls Tryz.prog 144 #[] w fun r w' => Spell6 r ∧ Grow w w' := by
  go_enter Tryz.func144, Tryz.ntmps144
  go_wp2_with (first | (go_at_call 138; refine (tdo_any _ _ _ _ _).mono ?_; rintro e' w' ⟨rfl, nx, rfl⟩) | (go_at_call 164; refine (aim_any _ _ _).mono ?_; rintro e' w' ⟨rfl, nx, rfl⟩) | (go_at_call 165; refine (every_any _ _ _ _ _).mono ?_; rintro e' w' ⟨s1, rfl, _, nx, rfl⟩) | (go_at_call 166; refine (seq_any' _ _ _ _ _).mono ?_; rintro e' w' ⟨rfl, nx, rfl⟩))
  refine bodyPost_ret (results_ab6 rfl _ _ _ rfl ?_) rfl ?_
  · go_simp
  · exact ⟨⟨_, _, _, _, _, _, by (go_simp; first | rfl | exact ⟨rfl, rfl, rfl, rfl, rfl, rfl⟩), rfl, rfl, rfl, rfl, rfl, rfl⟩, grI⟩
end Go.Proofs.YtkbghjfagnjpoaaGreatDoor
namespace Go.Proofs.YtkbghjfagnjpoaaGreatDoor
open Go Go.RowKit

/-- The relics of one colour, as cells. -/
def RelRow (w : World) (n : Nat) (r : Array Value) (c : Nat) : Prop := r.size = 56 ∧ oneCells r = true ∧ ∀ k, k < 4 → ∃ a : AbV, sub r (k * 14) 14 = a.arr ∧ AbOk w n a (relicN c k)
theorem RelRow.to {b : Nat} {w w1 w2 : World} {m n : Nat} {r : Array Value} {c : Nat} (h : RelRow w n r c) (g : Grow w w1) (ho : Off b w1 w2) (hb : b < n) (hm : m ≤ n) : RelRow w2 m r c :=
  ⟨h.1, h.2.1, fun k hk => by obtain ⟨a, h1, h2⟩ := h.2.2 k hk; exact ⟨a, h1, ((h2.grow g).off ho hb).low hm⟩⟩
theorem Rel4.row {w : World} {n : Nat} {e : Ending} {c : Nat} (h : Rel4 w n e c) : ∃ r, e = .returned (.agg r) ∧ RelRow w n r c := by
  obtain ⟨a0, a1, a2, a3, rfl, h0, h1, h2, h3⟩ := h
  have hs := catV_sub 14 [a0.arr, a1.arr, a2.arr, a3.arr] (by simp [AbV.size])
  refine ⟨_, rfl, ab4_size _ _ _ _, ab4_one _ _ _ _, fun k hk => ?_⟩
  have : k = 0 ∨ k = 1 ∨ k = 2 ∨ k = 3 := by omega
  rcases this with rfl | rfl | rfl | rfl
  · exact ⟨a0, hs 0 (by simp), h0⟩
  · exact ⟨a1, hs 1 (by simp), h1⟩
  · exact ⟨a2, hs 2 (by simp), h2⟩
  · exact ⟨a3, hs 3 (by simp), h3⟩
/-- The spells of one colour, as cells. -/
def SpRow (r : Array Value) : Prop := r.size = 84 ∧ oneCells r = true ∧ ∀ k, k < 6 → ∃ a : AbV, sub r (k * 14) 14 = a.arr ∧ a.wh = 0
theorem Spell6.row {e : Ending} (h : Spell6 e) : ∃ r, e = .returned (.agg r) ∧ SpRow r := by
  obtain ⟨a0, a1, a2, a3, a4, a5, rfl, h0, h1, h2, h3, h4, h5⟩ := h
  have hs := catV_sub 14 [a0.arr, a1.arr, a2.arr, a3.arr, a4.arr, a5.arr] (by simp [AbV.size])
  refine ⟨_, rfl, ab6_size _ _ _ _ _ _, ab6_one _ _ _ _ _ _, fun k hk => ?_⟩
  have : k = 0 ∨ k = 1 ∨ k = 2 ∨ k = 3 ∨ k = 4 ∨ k = 5 := by omega
  rcases this with rfl | rfl | rfl | rfl | rfl | rfl
  · exact ⟨a0, hs 0 (by simp), h0⟩
  · exact ⟨a1, hs 1 (by simp), h1⟩
  · exact ⟨a2, hs 2 (by simp), h2⟩
  · exact ⟨a3, hs 3 (by simp), h3⟩
  · exact ⟨a4, hs 4 (by simp), h4⟩
  · exact ⟨a5, hs 5 (by simp), h5⟩
@[go_sem ↓] theorem build_ab54 (ρ : Operand → Value) (dst : Option Tmp) (parts : Array (Nat × Operand)) (ty : TypeId) (pos : String) (after : Array Edge) (guard : Option (Nat × Bool)) :
    execOp ρ { dst, op := .build 145 parts, type := ty, pos, after, guard } = bdRow 145 (parts.map fun (i, x) => (i, ρ x)) := rfl
@[go_sem ↓] theorem load_ab54 (ρ : Operand → Value) (dst : Option Tmp) (x : Operand) (ty : TypeId) (pos : String) (after : Array Edge) (guard : Option (Nat × Bool)) :
    execOp ρ { dst, op := .load 145 x, type := ty, pos, after, guard } = ldRow 145 (ρ x) := rfl
@[go_sem ↓] theorem store_ab54 (ρ : Operand → Value) (dst : Option Tmp) (x y : Operand) (ty : TypeId) (pos : String) (after : Array Edge) (guard : Option (Nat × Bool)) :
    execOp ρ { dst, op := .store 145 x y, type := ty, pos, after, guard } = stRow 145 (ρ x) (ρ y) := rfl
@[go_sem] theorem run_load_ab54 (w : World) (b o : Nat) (h : o + 280 ≤ (w.blk b).size) : (ldRow 145 (.pointer (some ⟨b, o, none⟩))).run Tryz.prog w = .ok (.value (.agg (sub (w.blk b) o 280))) w :=
  run_ldSub w b o 145 280 (by kernel_rfl) (by kernel_rfl) h (by omega)
@[go_sem] theorem run_store_ab54 (w : World) (b : Nat) (cs : Array Value) (h : (w.blk b).size = 280) (hc : cs.size = 280) (h1 : oneCells cs = true) (hf : w.free b = true) : (stRow 145 (.pointer (some ⟨b, 0, none⟩)) (.agg cs)).run Tryz.prog w = .ok .skip (w.setRow b cs) :=
  run_stRow w b 145 280 _ (by kernel_rfl) h hc (by omega) hf h1
theorem loadVar_ab54 (w : World) (b : Nat) (h : (w.blk b).size = 280) : (loadVar 145 ⟨b, 0, none⟩).run Tryz.prog w = .ok (.agg (sub (w.blk b) 0 280)) w := by
  have := run_load_ab54 w b 0 (by omega)
  unfold ldRow at this
  rw [Sem.run_bind] at this
  simp only [Instr.loadAt, Instr.sureAddr, Sem.run_bind, Sem.run_pure, Result.andThen_ok] at this
  cases hr : (loadVar 145 ⟨b, 0, none⟩).run Tryz.prog w with
  | ok v w' => rw [hr] at this; simp at this; rw [this.1, this.2]
  | halt x w' => rw [hr] at this; simp [Result.andThen] at this
theorem results_ab54 {fn : Func} {p : Tmp} (h : fn.results = #[.cell p 145]) (tmps : Array Value) (w : World) (b : Nat) (hp : tmps.getD p undef = .pointer (some ⟨b, 0, none⟩)) (h1 : (w.blk b).size = 280) :
    (results fn tmps).run Tryz.prog w = .ok (.agg (sub (w.blk b) 0 280)) w := by
  unfold results
  rw [h]
  have e1 := loadVar_ab54 w b h1
  have hp' : tmps[p]?.getD undef = .pointer (some ⟨b, 0, none⟩) := by simpa using hp
  simp [asAddr, hp', e1]
@[go_sem ↓] theorem build_ab56 (ρ : Operand → Value) (dst : Option Tmp) (parts : Array (Nat × Operand)) (ty : TypeId) (pos : String) (after : Array Edge) (guard : Option (Nat × Bool)) :
    execOp ρ { dst, op := .build 142 parts, type := ty, pos, after, guard } = bdRow 142 (parts.map fun (i, x) => (i, ρ x)) := rfl
@[go_sem ↓] theorem load_ab56 (ρ : Operand → Value) (dst : Option Tmp) (x : Operand) (ty : TypeId) (pos : String) (after : Array Edge) (guard : Option (Nat × Bool)) :
    execOp ρ { dst, op := .load 142 x, type := ty, pos, after, guard } = ldRow 142 (ρ x) := rfl
@[go_sem ↓] theorem store_ab56 (ρ : Operand → Value) (dst : Option Tmp) (x y : Operand) (ty : TypeId) (pos : String) (after : Array Edge) (guard : Option (Nat × Bool)) :
    execOp ρ { dst, op := .store 142 x y, type := ty, pos, after, guard } = stRow 142 (ρ x) (ρ y) := rfl
@[go_sem] theorem run_load_ab56 (w : World) (b o : Nat) (h : o + 420 ≤ (w.blk b).size) : (ldRow 142 (.pointer (some ⟨b, o, none⟩))).run Tryz.prog w = .ok (.value (.agg (sub (w.blk b) o 420))) w :=
  run_ldSub w b o 142 420 (by kernel_rfl) (by kernel_rfl) h (by omega)
@[go_sem] theorem run_store_ab56 (w : World) (b : Nat) (cs : Array Value) (h : (w.blk b).size = 420) (hc : cs.size = 420) (h1 : oneCells cs = true) (hf : w.free b = true) : (stRow 142 (.pointer (some ⟨b, 0, none⟩)) (.agg cs)).run Tryz.prog w = .ok .skip (w.setRow b cs) :=
  run_stRow w b 142 420 _ (by kernel_rfl) h hc (by omega) hf h1
theorem loadVar_ab56 (w : World) (b : Nat) (h : (w.blk b).size = 420) : (loadVar 142 ⟨b, 0, none⟩).run Tryz.prog w = .ok (.agg (sub (w.blk b) 0 420)) w := by
  have := run_load_ab56 w b 0 (by omega)
  unfold ldRow at this
  rw [Sem.run_bind] at this
  simp only [Instr.loadAt, Instr.sureAddr, Sem.run_bind, Sem.run_pure, Result.andThen_ok] at this
  cases hr : (loadVar 142 ⟨b, 0, none⟩).run Tryz.prog w with
  | ok v w' => rw [hr] at this; simp at this; rw [this.1, this.2]
  | halt x w' => rw [hr] at this; simp [Result.andThen] at this
theorem results_ab56 {fn : Func} {p : Tmp} (h : fn.results = #[.cell p 142]) (tmps : Array Value) (w : World) (b : Nat) (hp : tmps.getD p undef = .pointer (some ⟨b, 0, none⟩)) (h1 : (w.blk b).size = 420) :
    (results fn tmps).run Tryz.prog w = .ok (.agg (sub (w.blk b) 0 420)) w := by
  unfold results
  rw [h]
  have e1 := loadVar_ab56 w b h1
  have hp' : tmps[p]?.getD undef = .pointer (some ⟨b, 0, none⟩) := by simpa using hp
  simp [asAddr, hp', e1]
@[go_sem] theorem five_size (a b c d e : Array Value) : (catV [a, b, c, d, e]).size = a.size + (b.size + (c.size + (d.size + e.size))) := by simp [catV]
theorem five_one (a b c d e : Array Value) (ha : oneCells a = true) (hb : oneCells b = true) (hc : oneCells c = true) (hd : oneCells d = true) (he : oneCells e = true) : oneCells (catV [a, b, c, d, e]) = true := by
  refine catV_one _ fun x hx => ?_
  simp at hx
  rcases hx with rfl | rfl | rfl | rfl | rfl <;> assumption
attribute [go_sem] five_one
theorem sub_full (a : Array Value) (n : Nat) (h : a.size = n) : sub a 0 n = a := by
  unfold sub; rw [Nat.zero_add, ← h, Array.extract_size]
attribute [go_sem] sub_full
theorem run_build_ab54 (w : World) (a b c d e : Array Value) (ha : a.size = 56) (hb : b.size = 56) (hc : c.size = 56) (hd : d.size = 56) (he : e.size = 56) :
    (bdRow 145 #[(0, .agg a), (1, .agg b), (2, .agg c), (3, .agg d), (4, .agg e)]).run Tryz.prog w = .ok (.value (.agg (catV [a, b, c, d, e]))) w :=
  run_build_rows w 145 144 5 56 Tryz.t145 Tryz.underlying145 (by kernel_rfl) (by kernel_rfl) (by kernel_rfl) [a, b, c, d, e] rfl (by simp [ha, hb, hc, hd, he])
theorem run_build_ab56 (w : World) (a b c d e : Array Value) (ha : a.size = 84) (hb : b.size = 84) (hc : c.size = 84) (hd : d.size = 84) (he : e.size = 84) :
    (bdRow 142 #[(0, .agg a), (1, .agg b), (2, .agg c), (3, .agg d), (4, .agg e)]).run Tryz.prog w = .ok (.value (.agg (catV [a, b, c, d, e]))) w :=
  run_build_rows w 142 141 5 84 Tryz.t142 Tryz.underlying142 (by kernel_rfl) (by kernel_rfl) (by kernel_rfl) [a, b, c, d, e] rfl (by simp [ha, hb, hc, hd, he])
attribute [go_sem] run_build_ab54 run_build_ab56
/-- All relics, as cells. -/
def RelAll (w : World) (n : Nat) (x : Array Value) : Prop := ∀ c k, c < 5 → k < 4 → ∃ a : AbV, sub (sub x (c * 56) 56) (k * 14) 14 = a.arr ∧ AbOk w n a (relicN c k)
theorem RelAll.of {w : World} {n : Nat} {a b c d e : Array Value} (ha : RelRow w n a 0) (hb : RelRow w n b 1) (hc : RelRow w n c 2) (hd : RelRow w n d 3) (he : RelRow w n e 4) : RelAll w n (catV [a, b, c, d, e]) := by
  have hs := catV_sub 56 [a, b, c, d, e] (by simp [ha.1, hb.1, hc.1, hd.1, he.1])
  intro i k hi hk
  have : i = 0 ∨ i = 1 ∨ i = 2 ∨ i = 3 ∨ i = 4 := by omega
  rcases this with rfl | rfl | rfl | rfl | rfl
  · rw [hs 0 (by simp)]; exact ha.2.2 k hk
  · rw [hs 1 (by simp)]; exact hb.2.2 k hk
  · rw [hs 2 (by simp)]; exact hc.2.2 k hk
  · rw [hs 3 (by simp)]; exact hd.2.2 k hk
  · rw [hs 4 (by simp)]; exact he.2.2 k hk
/-- All spells, as cells. -/
def SpAll (x : Array Value) : Prop := ∀ c k, c < 5 → k < 6 → ∃ a : AbV, sub (sub x (c * 84) 84) (k * 14) 14 = a.arr ∧ a.wh = 0
theorem SpAll.of {a b c d e : Array Value} (ha : SpRow a) (hb : SpRow b) (hc : SpRow c) (hd : SpRow d) (he : SpRow e) : SpAll (catV [a, b, c, d, e]) := by
  have hs := catV_sub 84 [a, b, c, d, e] (by simp [ha.1, hb.1, hc.1, hd.1, he.1])
  intro i k hi hk
  have : i = 0 ∨ i = 1 ∨ i = 2 ∨ i = 3 ∨ i = 4 := by omega
  rcases this with rfl | rfl | rfl | rfl | rfl
  · rw [hs 0 (by simp)]; exact ha.2.2 k hk
  · rw [hs 1 (by simp)]; exact hb.2.2 k hk
  · rw [hs 2 (by simp)]; exact hc.2.2 k hk
  · rw [hs 3 (by simp)]; exact hd.2.2 k hk
  · rw [hs 4 (by simp)]; exact he.2.2 k hk
set_option maxRecDepth 100000 in
set_option maxHeartbeats 1000000 in
theorem relics_any (w : World) : Calls Tryz.prog 107 #[] w fun r w' => ∃ x, r = .returned (.agg x) ∧ RelAll w' w.heap.size x ∧ Grow w w' := by
  go_enter Tryz.func107, Tryz.ntmps107
  go_wp2_with (first
    | (go_at_call 145; refine (whiteRelics_any _).mono ?_; rintro e' w' ⟨hr, nx, rfl⟩; obtain ⟨r0, rfl, hq⟩ := hr.row; clear hr; have s0 := hq.1; have o0 := hq.2.1; (try simp only [drew_plus] at hq); (try simp only [plus_plus] at hq); have H0 := Lib.hid hq; clear hq)
    | (go_at_call 146; refine (blueRelics_any _).mono ?_; rintro e' w' ⟨hr, nx, rfl⟩; obtain ⟨r1, rfl, hq⟩ := hr.row; clear hr; have s1 := hq.1; have o1 := hq.2.1; (try simp only [drew_plus] at hq); (try simp only [plus_plus] at hq); have H1 := Lib.hid hq; clear hq)
    | (go_at_call 147; refine (blackRelics_any _).mono ?_; rintro e' w' ⟨hr, nx, rfl⟩; obtain ⟨r2, rfl, hq⟩ := hr.row; clear hr; have s2 := hq.1; have o2 := hq.2.1; (try simp only [drew_plus] at hq); (try simp only [plus_plus] at hq); have H2 := Lib.hid hq; clear hq)
    | (go_at_call 148; refine (redRelics_any _).mono ?_; rintro e' w' ⟨hr, nx, rfl⟩; obtain ⟨r3, rfl, hq⟩ := hr.row; clear hr; have s3 := hq.1; have o3 := hq.2.1; (try simp only [drew_plus] at hq); (try simp only [plus_plus] at hq); have H3 := Lib.hid hq; clear hq)
    | (go_at_call 149; refine (greenRelics_any _).mono ?_; rintro e' w' ⟨hr, nx, rfl⟩; obtain ⟨r4, rfl, hq⟩ := hr.row; clear hr; have s4 := hq.1; have o4 := hq.2.1; (try simp only [drew_plus] at hq); (try simp only [plus_plus] at hq); have H4 := Lib.hid hq; clear hq))
  refine bodyPost_ret (results_ab54 rfl _ _ _ rfl ?_) rfl ?_
  · go_simp
  · rename_i x3 x2 x1 x0
    refine ⟨catV [r0, r1, r2, r3, r4], by go_simp, RelAll.of (H0.out.to (b := w.heap.size) (w1 := ((w.alloc (Obj.cells Tryz.zeroCells145 145)).plus ((((x3.and x2).and x1).and x0).and nx))) grI (by repeat (first | exact Off.base _ _ _ _ rfl | refine Off.plus ?_ _ | refine Off.alloc ?_ _)) (by first | (go_simp; done) | (go_simp; omega) | (simp only [Sl.b]; go_simp; omega)) (by first | (go_simp; done) | (go_simp; omega) | (simp only [Sl.b]; go_simp; omega))) (H1.out.to (b := w.heap.size) (w1 := ((w.alloc (Obj.cells Tryz.zeroCells145 145)).plus ((((x3.and x2).and x1).and x0).and nx))) grI (by repeat (first | exact Off.base _ _ _ _ rfl | refine Off.plus ?_ _ | refine Off.alloc ?_ _)) (by first | (go_simp; done) | (go_simp; omega) | (simp only [Sl.b]; go_simp; omega)) (by first | (go_simp; done) | (go_simp; omega) | (simp only [Sl.b]; go_simp; omega))) (H2.out.to (b := w.heap.size) (w1 := ((w.alloc (Obj.cells Tryz.zeroCells145 145)).plus ((((x3.and x2).and x1).and x0).and nx))) grI (by repeat (first | exact Off.base _ _ _ _ rfl | refine Off.plus ?_ _ | refine Off.alloc ?_ _)) (by first | (go_simp; done) | (go_simp; omega) | (simp only [Sl.b]; go_simp; omega)) (by first | (go_simp; done) | (go_simp; omega) | (simp only [Sl.b]; go_simp; omega))) (H3.out.to (b := w.heap.size) (w1 := ((w.alloc (Obj.cells Tryz.zeroCells145 145)).plus ((((x3.and x2).and x1).and x0).and nx))) grI (by repeat (first | exact Off.base _ _ _ _ rfl | refine Off.plus ?_ _ | refine Off.alloc ?_ _)) (by first | (go_simp; done) | (go_simp; omega) | (simp only [Sl.b]; go_simp; omega)) (by first | (go_simp; done) | (go_simp; omega) | (simp only [Sl.b]; go_simp; omega))) (H4.out.to (b := w.heap.size) (w1 := ((w.alloc (Obj.cells Tryz.zeroCells145 145)).plus ((((x3.and x2).and x1).and x0).and nx))) grI (by repeat (first | exact Off.base _ _ _ _ rfl | refine Off.plus ?_ _ | refine Off.alloc ?_ _)) (by first | (go_simp; done) | (go_simp; omega) | (simp only [Sl.b]; go_simp; omega)) (by first | (go_simp; done) | (go_simp; omega) | (simp only [Sl.b]; go_simp; omega))), grI⟩
set_option maxRecDepth 100000 in
set_option maxHeartbeats 1000000 in
theorem spells_any (w : World) : Calls Tryz.prog 106 #[] w fun r w' => ∃ x, r = .returned (.agg x) ∧ SpAll x ∧ Grow w w' := by
  go_enter Tryz.func106, Tryz.ntmps106
  go_wp2_with (first
    | (go_at_call 140; refine (whiteSpells_any _).mono ?_; rintro e' w' ⟨hr, nx, rfl⟩; obtain ⟨r0, rfl, hq⟩ := hr.row; clear hr; have s0 := hq.1; have o0 := hq.2.1; have H0 := Lib.hid hq; clear hq)
    | (go_at_call 141; refine (blueSpells_any _).mono ?_; rintro e' w' ⟨hr, nx, rfl⟩; obtain ⟨r1, rfl, hq⟩ := hr.row; clear hr; have s1 := hq.1; have o1 := hq.2.1; have H1 := Lib.hid hq; clear hq)
    | (go_at_call 142; refine (blackSpells_any _).mono ?_; rintro e' w' ⟨hr, nx, rfl⟩; obtain ⟨r2, rfl, hq⟩ := hr.row; clear hr; have s2 := hq.1; have o2 := hq.2.1; have H2 := Lib.hid hq; clear hq)
    | (go_at_call 143; refine (redSpells_any _).mono ?_; rintro e' w' ⟨hr, nx, rfl⟩; obtain ⟨r3, rfl, hq⟩ := hr.row; clear hr; have s3 := hq.1; have o3 := hq.2.1; have H3 := Lib.hid hq; clear hq)
    | (go_at_call 144; refine (greenSpells_any _).mono ?_; rintro e' w' ⟨hr, nx, rfl⟩; obtain ⟨r4, rfl, hq⟩ := hr.row; clear hr; have s4 := hq.1; have o4 := hq.2.1; have H4 := Lib.hid hq; clear hq))
  refine bodyPost_ret (results_ab56 rfl _ _ _ rfl ?_) rfl ?_
  · go_simp
  · exact ⟨catV [r0, r1, r2, r3, r4], by go_simp, SpAll.of H0.out H1.out H2.out H3.out H4.out, grI⟩
end Go.Proofs.YtkbghjfagnjpoaaGreatDoor
