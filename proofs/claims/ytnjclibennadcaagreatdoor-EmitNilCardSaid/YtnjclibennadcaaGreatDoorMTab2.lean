/-
  All relics and all spells, by colour and place.
-/
import Derived.Test.YtnjclibennadcaaGreatDoorMRelics
import Derived.Test.YtnjclibennadcaaGreatDoorMSpells
import Derived.Test.YtnjclibennadcaaGreatDoorMCard
namespace Go.Proofs.YtnjclibennadcaaGreatDoor
open Go Go.RowKit

/-- The relics of one colour, as cells. -/
def RelRow (w : World) (n : Nat) (r : Array Value) (c : Nat) : Prop := r.size = 56 ∧ oneCells r = true ∧ ∀ k, k < 4 → ∃ a : AbV, sub r (k * 14) 14 = a.arr ∧ AbOk w n a (relicN c k)
theorem RelRow.to {b : Nat} {w w1 w2 : World} {m n : Nat} {r : Array Value} {c : Nat} (h : RelRow w n r c) (g : Grow w w1) (ho : Off b w1 w2) (hb : b < n) (hm : m ≤ n) : RelRow w2 m r c :=
  ⟨h.1, h.2.1, fun k hk => by obtain ⟨a, h1, h2⟩ := h.2.2 k hk; exact ⟨a, h1, ((h2.grow g).off ho hb).low hm⟩⟩
theorem Rel4.row {w : World} {n : Nat} {e : Ending} {c : Nat} (h : Rel4 w n e c) : ∃ r, e = .returned (.agg r) ∧ RelRow w n r c := by
  obtain ⟨a0, a1, a2, a3, rfl, h0, h1, h2, h3⟩ := h
  have hs := catV_sub 14 [a0.arr, a1.arr, a2.arr, a3.arr] (by simp [AbV.size])
  refine ⟨_, rfl, ab4_size _ _ _ _, ab4_one _ _ _ _, fun k hk => ?_⟩
  have : k = 0 ∨ k = 1 ∨ k = 2 ∨ k = 3 := by omega
  rcases this with rfl | rfl | rfl | rfl
  · exact ⟨a0, hs 0 (by simp), h0⟩
  · exact ⟨a1, hs 1 (by simp), h1⟩
  · exact ⟨a2, hs 2 (by simp), h2⟩
  · exact ⟨a3, hs 3 (by simp), h3⟩
/-- The spells of one colour, as cells. -/
def SpRow (r : Array Value) : Prop := r.size = 84 ∧ oneCells r = true ∧ ∀ k, k < 6 → ∃ a : AbV, sub r (k * 14) 14 = a.arr ∧ a.wh = 0
theorem Spell6.row {e : Ending} (h : Spell6 e) : ∃ r, e = .returned (.agg r) ∧ SpRow r := by
  obtain ⟨a0, a1, a2, a3, a4, a5, rfl, h0, h1, h2, h3, h4, h5⟩ := h
  have hs := catV_sub 14 [a0.arr, a1.arr, a2.arr, a3.arr, a4.arr, a5.arr] (by simp [AbV.size])
  refine ⟨_, rfl, ab6_size _ _ _ _ _ _, ab6_one _ _ _ _ _ _, fun k hk => ?_⟩
  have : k = 0 ∨ k = 1 ∨ k = 2 ∨ k = 3 ∨ k = 4 ∨ k = 5 := by omega
  rcases this with rfl | rfl | rfl | rfl | rfl | rfl
  · exact ⟨a0, hs 0 (by simp), h0⟩
  · exact ⟨a1, hs 1 (by simp), h1⟩
  · exact ⟨a2, hs 2 (by simp), h2⟩
  · exact ⟨a3, hs 3 (by simp), h3⟩
  · exact ⟨a4, hs 4 (by simp), h4⟩
  · exact ⟨a5, hs 5 (by simp), h5⟩
@[go_sem ↓] theorem build_ab54 (ρ : Operand → Value) (dst : Option Tmp) (parts : Array (Nat × Operand)) (ty : TypeId) (pos : String) (after : Array Edge) (guard : Option (Nat × Bool)) :
    execOp ρ { dst, op := .build 225 parts, type := ty, pos, after, guard } = bdRow 225 (parts.map fun (i, x) => (i, ρ x)) := rfl
@[go_sem ↓] theorem load_ab54 (ρ : Operand → Value) (dst : Option Tmp) (x : Operand) (ty : TypeId) (pos : String) (after : Array Edge) (guard : Option (Nat × Bool)) :
    execOp ρ { dst, op := .load 225 x, type := ty, pos, after, guard } = ldRow 225 (ρ x) := rfl
@[go_sem ↓] theorem store_ab54 (ρ : Operand → Value) (dst : Option Tmp) (x y : Operand) (ty : TypeId) (pos : String) (after : Array Edge) (guard : Option (Nat × Bool)) :
    execOp ρ { dst, op := .store 225 x y, type := ty, pos, after, guard } = stRow 225 (ρ x) (ρ y) := rfl
@[go_sem] theorem run_load_ab54 (w : World) (b o : Nat) (h : o + 280 ≤ (w.blk b).size) : (ldRow 225 (.pointer (some ⟨b, o, none⟩))).run Tryz.prog w = .ok (.value (.agg (sub (w.blk b) o 280))) w :=
  run_ldSub w b o 225 280 (by kernel_rfl) (by kernel_rfl) h (by omega)
@[go_sem] theorem run_store_ab54 (w : World) (b : Nat) (cs : Array Value) (h : (w.blk b).size = 280) (hc : cs.size = 280) (h1 : oneCells cs = true) (hf : w.free b = true) : (stRow 225 (.pointer (some ⟨b, 0, none⟩)) (.agg cs)).run Tryz.prog w = .ok .skip (w.setRow b cs) :=
  run_stRow w b 225 280 _ (by kernel_rfl) h hc (by omega) hf h1
theorem loadVar_ab54 (w : World) (b : Nat) (h : (w.blk b).size = 280) : (loadVar 225 ⟨b, 0, none⟩).run Tryz.prog w = .ok (.agg (sub (w.blk b) 0 280)) w := by
  have := run_load_ab54 w b 0 (by omega)
  unfold ldRow at this
  rw [Sem.run_bind] at this
  simp only [Instr.loadAt, Instr.sureAddr, Sem.run_bind, Sem.run_pure, Result.andThen_ok] at this
  cases hr : (loadVar 225 ⟨b, 0, none⟩).run Tryz.prog w with
  | ok v w' => rw [hr] at this; simp at this; rw [this.1, this.2]
  | halt x w' => rw [hr] at this; simp [Result.andThen] at this
theorem results_ab54 {fn : Func} {p : Tmp} (h : fn.results = #[.cell p 225]) (tmps : Array Value) (w : World) (b : Nat) (hp : tmps.getD p undef = .pointer (some ⟨b, 0, none⟩)) (h1 : (w.blk b).size = 280) :
    (results fn tmps).run Tryz.prog w = .ok (.agg (sub (w.blk b) 0 280)) w := by
  unfold results
  rw [h]
  have e1 := loadVar_ab54 w b h1
  have hp' : tmps[p]?.getD undef = .pointer (some ⟨b, 0, none⟩) := by simpa using hp
  simp [asAddr, hp', e1]
@[go_sem ↓] theorem build_ab56 (ρ : Operand → Value) (dst : Option Tmp) (parts : Array (Nat × Operand)) (ty : TypeId) (pos : String) (after : Array Edge) (guard : Option (Nat × Bool)) :
    execOp ρ { dst, op := .build 222 parts, type := ty, pos, after, guard } = bdRow 222 (parts.map fun (i, x) => (i, ρ x)) := rfl
@[go_sem ↓] theorem load_ab56 (ρ : Operand → Value) (dst : Option Tmp) (x : Operand) (ty : TypeId) (pos : String) (after : Array Edge) (guard : Option (Nat × Bool)) :
    execOp ρ { dst, op := .load 222 x, type := ty, pos, after, guard } = ldRow 222 (ρ x) := rfl
@[go_sem ↓] theorem store_ab56 (ρ : Operand → Value) (dst : Option Tmp) (x y : Operand) (ty : TypeId) (pos : String) (after : Array Edge) (guard : Option (Nat × Bool)) :
    execOp ρ { dst, op := .store 222 x y, type := ty, pos, after, guard } = stRow 222 (ρ x) (ρ y) := rfl
@[go_sem] theorem run_load_ab56 (w : World) (b o : Nat) (h : o + 420 ≤ (w.blk b).size) : (ldRow 222 (.pointer (some ⟨b, o, none⟩))).run Tryz.prog w = .ok (.value (.agg (sub (w.blk b) o 420))) w :=
  run_ldSub w b o 222 420 (by kernel_rfl) (by kernel_rfl) h (by omega)
@[go_sem] theorem run_store_ab56 (w : World) (b : Nat) (cs : Array Value) (h : (w.blk b).size = 420) (hc : cs.size = 420) (h1 : oneCells cs = true) (hf : w.free b = true) : (stRow 222 (.pointer (some ⟨b, 0, none⟩)) (.agg cs)).run Tryz.prog w = .ok .skip (w.setRow b cs) :=
  run_stRow w b 222 420 _ (by kernel_rfl) h hc (by omega) hf h1
theorem loadVar_ab56 (w : World) (b : Nat) (h : (w.blk b).size = 420) : (loadVar 222 ⟨b, 0, none⟩).run Tryz.prog w = .ok (.agg (sub (w.blk b) 0 420)) w := by
  have := run_load_ab56 w b 0 (by omega)
  unfold ldRow at this
  rw [Sem.run_bind] at this
  simp only [Instr.loadAt, Instr.sureAddr, Sem.run_bind, Sem.run_pure, Result.andThen_ok] at this
  cases hr : (loadVar 222 ⟨b, 0, none⟩).run Tryz.prog w with
  | ok v w' => rw [hr] at this; simp at this; rw [this.1, this.2]
  | halt x w' => rw [hr] at this; simp [Result.andThen] at this
theorem results_ab56 {fn : Func} {p : Tmp} (h : fn.results = #[.cell p 222]) (tmps : Array Value) (w : World) (b : Nat) (hp : tmps.getD p undef = .pointer (some ⟨b, 0, none⟩)) (h1 : (w.blk b).size = 420) :
    (results fn tmps).run Tryz.prog w = .ok (.agg (sub (w.blk b) 0 420)) w := by
  unfold results
  rw [h]
  have e1 := loadVar_ab56 w b h1
  have hp' : tmps[p]?.getD undef = .pointer (some ⟨b, 0, none⟩) := by simpa using hp
  simp [asAddr, hp', e1]
@[go_sem] theorem five_size (a b c d e : Array Value) : (catV [a, b, c, d, e]).size = a.size + (b.size + (c.size + (d.size + e.size))) := by simp [catV]
theorem five_one (a b c d e : Array Value) (ha : oneCells a = true) (hb : oneCells b = true) (hc : oneCells c = true) (hd : oneCells d = true) (he : oneCells e = true) : oneCells (catV [a, b, c, d, e]) = true := by
  refine catV_one _ fun x hx => ?_
  simp at hx
  rcases hx with rfl | rfl | rfl | rfl | rfl <;> assumption
attribute [go_sem] five_one
theorem sub_full (a : Array Value) (n : Nat) (h : a.size = n) : sub a 0 n = a := by
  unfold sub; rw [Nat.zero_add, ← h, Array.extract_size]
attribute [go_sem] sub_full
theorem run_build_ab54 (w : World) (a b c d e : Array Value) (ha : a.size = 56) (hb : b.size = 56) (hc : c.size = 56) (hd : d.size = 56) (he : e.size = 56) :
    (bdRow 225 #[(0, .agg a), (1, .agg b), (2, .agg c), (3, .agg d), (4, .agg e)]).run Tryz.prog w = .ok (.value (.agg (catV [a, b, c, d, e]))) w :=
  run_build_rows w 225 224 5 56 Tryz.t225 Tryz.underlying225 (by kernel_rfl) (by kernel_rfl) (by kernel_rfl) [a, b, c, d, e] rfl (by simp [ha, hb, hc, hd, he])
theorem run_build_ab56 (w : World) (a b c d e : Array Value) (ha : a.size = 84) (hb : b.size = 84) (hc : c.size = 84) (hd : d.size = 84) (he : e.size = 84) :
    (bdRow 222 #[(0, .agg a), (1, .agg b), (2, .agg c), (3, .agg d), (4, .agg e)]).run Tryz.prog w = .ok (.value (.agg (catV [a, b, c, d, e]))) w :=
  run_build_rows w 222 221 5 84 Tryz.t222 Tryz.underlying222 (by kernel_rfl) (by kernel_rfl) (by kernel_rfl) [a, b, c, d, e] rfl (by simp [ha, hb, hc, hd, he])
attribute [go_sem] run_build_ab54 run_build_ab56
/-- All relics, as cells. -/
def RelAll (w : World) (n : Nat) (x : Array Value) : Prop := ∀ c k, c < 5 → k < 4 → ∃ a : AbV, sub (sub x (c * 56) 56) (k * 14) 14 = a.arr ∧ AbOk w n a (relicN c k)
theorem RelAll.of {w : World} {n : Nat} {a b c d e : Array Value} (ha : RelRow w n a 0) (hb : RelRow w n b 1) (hc : RelRow w n c 2) (hd : RelRow w n d 3) (he : RelRow w n e 4) : RelAll w n (catV [a, b, c, d, e]) := by
  have hs := catV_sub 56 [a, b, c, d, e] (by simp [ha.1, hb.1, hc.1, hd.1, he.1])
  intro i k hi hk
  have : i = 0 ∨ i = 1 ∨ i = 2 ∨ i = 3 ∨ i = 4 := by omega
  rcases this with rfl | rfl | rfl | rfl | rfl
  · rw [hs 0 (by simp)]; exact ha.2.2 k hk
  · rw [hs 1 (by simp)]; exact hb.2.2 k hk
  · rw [hs 2 (by simp)]; exact hc.2.2 k hk
  · rw [hs 3 (by simp)]; exact hd.2.2 k hk
  · rw [hs 4 (by simp)]; exact he.2.2 k hk
/-- All spells, as cells. -/
def SpAll (x : Array Value) : Prop := ∀ c k, c < 5 → k < 6 → ∃ a : AbV, sub (sub x (c * 84) 84) (k * 14) 14 = a.arr ∧ a.wh = 0
theorem SpAll.of {a b c d e : Array Value} (ha : SpRow a) (hb : SpRow b) (hc : SpRow c) (hd : SpRow d) (he : SpRow e) : SpAll (catV [a, b, c, d, e]) := by
  have hs := catV_sub 84 [a, b, c, d, e] (by simp [ha.1, hb.1, hc.1, hd.1, he.1])
  intro i k hi hk
  have : i = 0 ∨ i = 1 ∨ i = 2 ∨ i = 3 ∨ i = 4 := by omega
  rcases this with rfl | rfl | rfl | rfl | rfl
  · rw [hs 0 (by simp)]; exact ha.2.2 k hk
  · rw [hs 1 (by simp)]; exact hb.2.2 k hk
  · rw [hs 2 (by simp)]; exact hc.2.2 k hk
  · rw [hs 3 (by simp)]; exact hd.2.2 k hk
  · rw [hs 4 (by simp)]; exact he.2.2 k hk
set_option maxRecDepth 100000 in
set_option maxHeartbeats 1000000 in
theorem relics_any (w : World) : Calls Tryz.prog 207 #[] w fun r w' => ∃ x, r = .returned (.agg x) ∧ RelAll w' w.heap.size x ∧ Grow w w' := by
  go_enter Tryz.func207, Tryz.ntmps207
  go_wp2_with (first
    | (go_at_call 236; refine (whiteRelics_any _).mono ?_; rintro e' w' ⟨hr, nx, rfl⟩; obtain ⟨r0, rfl, hq⟩ := hr.row; clear hr; have s0 := hq.1; have o0 := hq.2.1; (try simp only [drew_plus] at hq); (try simp only [plus_plus] at hq); have H0 := Lib.hid hq; clear hq)
    | (go_at_call 237; refine (blueRelics_any _).mono ?_; rintro e' w' ⟨hr, nx, rfl⟩; obtain ⟨r1, rfl, hq⟩ := hr.row; clear hr; have s1 := hq.1; have o1 := hq.2.1; (try simp only [drew_plus] at hq); (try simp only [plus_plus] at hq); have H1 := Lib.hid hq; clear hq)
    | (go_at_call 238; refine (blackRelics_any _).mono ?_; rintro e' w' ⟨hr, nx, rfl⟩; obtain ⟨r2, rfl, hq⟩ := hr.row; clear hr; have s2 := hq.1; have o2 := hq.2.1; (try simp only [drew_plus] at hq); (try simp only [plus_plus] at hq); have H2 := Lib.hid hq; clear hq)
    | (go_at_call 239; refine (redRelics_any _).mono ?_; rintro e' w' ⟨hr, nx, rfl⟩; obtain ⟨r3, rfl, hq⟩ := hr.row; clear hr; have s3 := hq.1; have o3 := hq.2.1; (try simp only [drew_plus] at hq); (try simp only [plus_plus] at hq); have H3 := Lib.hid hq; clear hq)
    | (go_at_call 240; refine (greenRelics_any _).mono ?_; rintro e' w' ⟨hr, nx, rfl⟩; obtain ⟨r4, rfl, hq⟩ := hr.row; clear hr; have s4 := hq.1; have o4 := hq.2.1; (try simp only [drew_plus] at hq); (try simp only [plus_plus] at hq); have H4 := Lib.hid hq; clear hq))
  refine bodyPost_ret (results_ab54 rfl _ _ _ rfl ?_) rfl ?_
  · go_simp
  · rename_i x3 x2 x1 x0
    refine ⟨catV [r0, r1, r2, r3, r4], by go_simp, RelAll.of (H0.out.to (b := w.heap.size) (w1 := ((w.alloc (Obj.cells Tryz.zeroCells225 225)).plus ((((x3.and x2).and x1).and x0).and nx))) grI (by repeat (first | exact Off.base _ _ _ _ rfl | refine Off.plus ?_ _ | refine Off.alloc ?_ _)) (by first | (go_simp; done) | (go_simp; omega) | (simp only [Sl.b]; go_simp; omega)) (by first | (go_simp; done) | (go_simp; omega) | (simp only [Sl.b]; go_simp; omega))) (H1.out.to (b := w.heap.size) (w1 := ((w.alloc (Obj.cells Tryz.zeroCells225 225)).plus ((((x3.and x2).and x1).and x0).and nx))) grI (by repeat (first | exact Off.base _ _ _ _ rfl | refine Off.plus ?_ _ | refine Off.alloc ?_ _)) (by first | (go_simp; done) | (go_simp; omega) | (simp only [Sl.b]; go_simp; omega)) (by first | (go_simp; done) | (go_simp; omega) | (simp only [Sl.b]; go_simp; omega))) (H2.out.to (b := w.heap.size) (w1 := ((w.alloc (Obj.cells Tryz.zeroCells225 225)).plus ((((x3.and x2).and x1).and x0).and nx))) grI (by repeat (first | exact Off.base _ _ _ _ rfl | refine Off.plus ?_ _ | refine Off.alloc ?_ _)) (by first | (go_simp; done) | (go_simp; omega) | (simp only [Sl.b]; go_simp; omega)) (by first | (go_simp; done) | (go_simp; omega) | (simp only [Sl.b]; go_simp; omega))) (H3.out.to (b := w.heap.size) (w1 := ((w.alloc (Obj.cells Tryz.zeroCells225 225)).plus ((((x3.and x2).and x1).and x0).and nx))) grI (by repeat (first | exact Off.base _ _ _ _ rfl | refine Off.plus ?_ _ | refine Off.alloc ?_ _)) (by first | (go_simp; done) | (go_simp; omega) | (simp only [Sl.b]; go_simp; omega)) (by first | (go_simp; done) | (go_simp; omega) | (simp only [Sl.b]; go_simp; omega))) (H4.out.to (b := w.heap.size) (w1 := ((w.alloc (Obj.cells Tryz.zeroCells225 225)).plus ((((x3.and x2).and x1).and x0).and nx))) grI (by repeat (first | exact Off.base _ _ _ _ rfl | refine Off.plus ?_ _ | refine Off.alloc ?_ _)) (by first | (go_simp; done) | (go_simp; omega) | (simp only [Sl.b]; go_simp; omega)) (by first | (go_simp; done) | (go_simp; omega) | (simp only [Sl.b]; go_simp; omega))), grI⟩
set_option maxRecDepth 100000 in
set_option maxHeartbeats 1000000 in
theorem spells_any (w : World) : Calls Tryz.prog 206 #[] w fun r w' => ∃ x, r = .returned (.agg x) ∧ SpAll x ∧ Grow w w' := by
  go_enter Tryz.func206, Tryz.ntmps206
  go_wp2_with (first
    | (go_at_call 231; refine (whiteSpells_any _).mono ?_; rintro e' w' ⟨hr, nx, rfl⟩; obtain ⟨r0, rfl, hq⟩ := hr.row; clear hr; have s0 := hq.1; have o0 := hq.2.1; have H0 := Lib.hid hq; clear hq)
    | (go_at_call 232; refine (blueSpells_any _).mono ?_; rintro e' w' ⟨hr, nx, rfl⟩; obtain ⟨r1, rfl, hq⟩ := hr.row; clear hr; have s1 := hq.1; have o1 := hq.2.1; have H1 := Lib.hid hq; clear hq)
    | (go_at_call 233; refine (blackSpells_any _).mono ?_; rintro e' w' ⟨hr, nx, rfl⟩; obtain ⟨r2, rfl, hq⟩ := hr.row; clear hr; have s2 := hq.1; have o2 := hq.2.1; have H2 := Lib.hid hq; clear hq)
    | (go_at_call 234; refine (redSpells_any _).mono ?_; rintro e' w' ⟨hr, nx, rfl⟩; obtain ⟨r3, rfl, hq⟩ := hr.row; clear hr; have s3 := hq.1; have o3 := hq.2.1; have H3 := Lib.hid hq; clear hq)
    | (go_at_call 235; refine (greenSpells_any _).mono ?_; rintro e' w' ⟨hr, nx, rfl⟩; obtain ⟨r4, rfl, hq⟩ := hr.row; clear hr; have s4 := hq.1; have o4 := hq.2.1; have H4 := Lib.hid hq; clear hq))
  refine bodyPost_ret (results_ab56 rfl _ _ _ rfl ?_) rfl ?_
  · go_simp
  · exact ⟨catV [r0, r1, r2, r3, r4], by go_simp, SpAll.of H0.out H1.out H2.out H3.out H4.out, grI⟩
end Go.Proofs.YtnjclibennadcaaGreatDoor
