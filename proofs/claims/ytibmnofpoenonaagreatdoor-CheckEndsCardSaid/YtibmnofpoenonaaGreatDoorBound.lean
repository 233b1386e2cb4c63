/-
  The walks of state's bounds.
-/
import Derived.Test.YtibmnofpoenonaaGreatDoorCopy
import Derived.BigRegion
namespace Go.Proofs.YtibmnofpoenonaaGreatDoor
open Go Go.RowKit

@[go_sem ↓] theorem load_bound (ρ : Operand → Value) (dst : Option Tmp) (x : Operand) (ty : TypeId) (pos : String) (after : Array Edge) (guard : Option (Nat × Bool)) :
    execOp ρ { dst, op := .load 113 x, type := ty, pos, after, guard } = ldRow 113 (ρ x) := rfl
@[go_sem ↓] theorem store_bound (ρ : Operand → Value) (dst : Option Tmp) (x y : Operand) (ty : TypeId) (pos : String) (after : Array Edge) (guard : Option (Nat × Bool)) :
    execOp ρ { dst, op := .store 113 x y, type := ty, pos, after, guard } = stRow 113 (ρ x) (ρ y) := rfl
@[go_sem] theorem run_load_bound (w : World) (b o : Nat) (h : o + 2 ≤ (w.blk b).size) : (ldRow 113 (.pointer (some ⟨b, o, none⟩))).run Tryz.prog w = .ok (.value (.agg (sub (w.blk b) o 2))) w :=
  run_ldSub w b o 113 2 (by kernel_rfl) (by kernel_rfl) h (by omega)
@[go_sem] theorem run_store_bound (w : World) (b : Nat) (cs : Array Value) (h : (w.blk b).size = 2) (hc : cs.size = 2) (h1 : oneCells cs = true) (hf : w.free b = true) : (stRow 113 (.pointer (some ⟨b, 0, none⟩)) (.agg cs)).run Tryz.prog w = .ok .skip (w.setRow b cs) :=
  run_stRow w b 113 2 _ (by kernel_rfl) h hc (by omega) hf h1
@[go_sem ↓] theorem load_bounds18 (ρ : Operand → Value) (dst : Option Tmp) (x : Operand) (ty : TypeId) (pos : String) (after : Array Edge) (guard : Option (Nat × Bool)) :
    execOp ρ { dst, op := .load 114 x, type := ty, pos, after, guard } = ldRow 114 (ρ x) := rfl
@[go_sem ↓] theorem store_bounds18 (ρ : Operand → Value) (dst : Option Tmp) (x y : Operand) (ty : TypeId) (pos : String) (after : Array Edge) (guard : Option (Nat × Bool)) :
    execOp ρ { dst, op := .store 114 x y, type := ty, pos, after, guard } = stRow 114 (ρ x) (ρ y) := rfl
@[go_sem] theorem run_load_bounds18 (w : World) (b o : Nat) (h : o + 36 ≤ (w.blk b).size) : (ldRow 114 (.pointer (some ⟨b, o, none⟩))).run Tryz.prog w = .ok (.value (.agg (sub (w.blk b) o 36))) w :=
  run_ldSub w b o 114 36 (by kernel_rfl) (by kernel_rfl) h (by omega)
@[go_sem] theorem run_store_bounds18 (w : World) (b : Nat) (cs : Array Value) (h : (w.blk b).size = 36) (hc : cs.size = 36) (h1 : oneCells cs = true) (hf : w.free b = true) : (stRow 114 (.pointer (some ⟨b, 0, none⟩)) (.agg cs)).run Tryz.prog w = .ok .skip (w.setRow b cs) :=
  run_stRow w b 114 36 _ (by kernel_rfl) h hc (by omega) hf h1
@[go_sem ↓] theorem load_bounds9 (ρ : Operand → Value) (dst : Option Tmp) (x : Operand) (ty : TypeId) (pos : String) (after : Array Edge) (guard : Option (Nat × Bool)) :
    execOp ρ { dst, op := .load 117 x, type := ty, pos, after, guard } = ldRow 117 (ρ x) := rfl
@[go_sem ↓] theorem store_bounds9 (ρ : Operand → Value) (dst : Option Tmp) (x y : Operand) (ty : TypeId) (pos : String) (after : Array Edge) (guard : Option (Nat × Bool)) :
    execOp ρ { dst, op := .store 117 x y, type := ty, pos, after, guard } = stRow 117 (ρ x) (ρ y) := rfl
@[go_sem] theorem run_load_bounds9 (w : World) (b o : Nat) (h : o + 18 ≤ (w.blk b).size) : (ldRow 117 (.pointer (some ⟨b, o, none⟩))).run Tryz.prog w = .ok (.value (.agg (sub (w.blk b) o 18))) w :=
  run_ldSub w b o 117 18 (by kernel_rfl) (by kernel_rfl) h (by omega)
@[go_sem] theorem run_store_bounds9 (w : World) (b : Nat) (cs : Array Value) (h : (w.blk b).size = 18) (hc : cs.size = 18) (h1 : oneCells cs = true) (hf : w.free b = true) : (stRow 117 (.pointer (some ⟨b, 0, none⟩)) (.agg cs)).run Tryz.prog w = .ok .skip (w.setRow b cs) :=
  run_stRow w b 117 18 _ (by kernel_rfl) h hc (by omega) hf h1
@[go_sem ↓] theorem load_bounds7 (ρ : Operand → Value) (dst : Option Tmp) (x : Operand) (ty : TypeId) (pos : String) (after : Array Edge) (guard : Option (Nat × Bool)) :
    execOp ρ { dst, op := .load 119 x, type := ty, pos, after, guard } = ldRow 119 (ρ x) := rfl
@[go_sem ↓] theorem store_bounds7 (ρ : Operand → Value) (dst : Option Tmp) (x y : Operand) (ty : TypeId) (pos : String) (after : Array Edge) (guard : Option (Nat × Bool)) :
    execOp ρ { dst, op := .store 119 x y, type := ty, pos, after, guard } = stRow 119 (ρ x) (ρ y) := rfl
@[go_sem] theorem run_load_bounds7 (w : World) (b o : Nat) (h : o + 14 ≤ (w.blk b).size) : (ldRow 119 (.pointer (some ⟨b, o, none⟩))).run Tryz.prog w = .ok (.value (.agg (sub (w.blk b) o 14))) w :=
  run_ldSub w b o 119 14 (by kernel_rfl) (by kernel_rfl) h (by omega)
@[go_sem] theorem run_store_bounds7 (w : World) (b : Nat) (cs : Array Value) (h : (w.blk b).size = 14) (hc : cs.size = 14) (h1 : oneCells cs = true) (hf : w.free b = true) : (stRow 119 (.pointer (some ⟨b, 0, none⟩)) (.agg cs)).run Tryz.prog w = .ok .skip (w.setRow b cs) :=
  run_stRow w b 119 14 _ (by kernel_rfl) h hc (by omega) hf h1


def inB (x a b : Int) : Bool := decide (a ≤ x) && decide (x ≤ b)
theorem has_any (a b x : Int) (w : World) :
    Calls Tryz.prog 71 #[.agg (cellsOf [a, b]), .int .i64 x] w fun e w' => e = .returned (.bool (inB x a b)) ∧ Grow w w' := by
  have h0 : gt [a, b] 0 = a := rfl
  have h1 : gt [a, b] 1 = b := rfl
  by_cases hax : a ≤ x
  · go_enter Tryz.func71, Tryz.ntmps71
    go_wp2_with fail
    go_ret
    exact ⟨ret_bool (by simp [inB, hax]), (by repeat (first | exact Grow.refl _ | refine Grow.andr ?_ | refine Grow.plus ?_ _ | refine Grow.alloc ?_ _ | refine Grow.drew ?_ | refine Grow.drewN ?_ _))⟩
  · go_enter Tryz.func71, Tryz.ntmps71
    go_wp2_with fail
    go_ret
    exact ⟨ret_bool (by simp [inB]; omega), (by repeat (first | exact Grow.refl _ | refine Grow.andr ?_ | refine Grow.plus ?_ _ | refine Grow.alloc ?_ _ | refine Grow.drew ?_ | refine Grow.drewN ?_ _))⟩

theorem run_stTwo {P : Program} (w : World) (b o : Nat) (ty : TypeId) (x y : Int) (hi : (P.info? ty).map (·.size) = some 2) (h : o + 2 ≤ (w.blk b).size) (hf : w.free b = true) :
    (stRow ty (.pointer (some ⟨b, o, none⟩)) (.agg (cellsOf [x, y]))).run P w = .ok .skip ((w.setCell ⟨b, o, none⟩ (I x)).setCell ⟨b, o + 1, none⟩ (I y)) := by
  unfold stRow
  cases ho : w.heap[b]? with
  | none => simp [World.blk, ho] at h
  | some q =>
    cases q <;> try (simp [World.blk, ho] at h; done)
    rename_i c t f
    simp [World.blk, ho] at h
    simp [World.free, ho] at hf
    subst hf
    rw [Sem.run_bind]
    have hth : w.there b o (cellsOf [x, y]).size := by
      intro j hj
      simp [cellsOf] at hj
      refine ⟨?_, ?_⟩
      · simp [World.cell?, ho, show o + j < c.size by omega]
      · simp [World.frozen?, ho]
    rw [run_storeAt_mid (P := P) w b o ty (cellsOf [x, y]) hth (by rw [hi]; rfl) (cellsOf_oneCell _)]
    rfl
@[go_sem] theorem run_storep_bound (w : World) (b o : Nat) (x y : Int) (h : o + 2 ≤ (w.blk b).size) (hf : w.free b = true) : (stRow 113 (.pointer (some ⟨b, o, none⟩)) (.agg (cellsOf [x, y]))).run Tryz.prog w = .ok .skip ((w.setCell ⟨b, o, none⟩ (I x)).setCell ⟨b, o + 1, none⟩ (I y)) :=
  run_stTwo w b o 113 x y (by kernel_rfl) h hf

theorem loadVar_B18 (w : World) (b : Nat) (h : (w.blk b).size = 36) : (loadVar 114 ⟨b, 0, none⟩).run Tryz.prog w = .ok (.agg (sub (w.blk b) 0 36)) w := by
  have := run_load_bounds18 w b 0 (by omega)
  unfold ldRow at this
  rw [Sem.run_bind] at this
  simp only [Instr.loadAt, Instr.sureAddr, Sem.run_bind, Sem.run_pure, Result.andThen_ok] at this
  cases hr : (loadVar 114 ⟨b, 0, none⟩).run Tryz.prog w with
  | ok v w' => rw [hr] at this; simp at this; rw [this.1, this.2]
  | halt x w' => rw [hr] at this; simp [Result.andThen] at this
theorem results_B18 {fn : Func} {p : Tmp} (h : fn.results = #[.cell p 114]) (tmps : Array Value) (w : World) (b : Nat) (hp : tmps.getD p undef = .pointer (some ⟨b, 0, none⟩)) (h1 : (w.blk b).size = 36) :
    (results fn tmps).run Tryz.prog w = .ok (.agg (sub (w.blk b) 0 36)) w := by
  unfold results
  rw [h]
  have e1 := loadVar_B18 w b h1
  have hp' : tmps[p]?.getD undef = .pointer (some ⟨b, 0, none⟩) := by simpa using hp
  simp [asAddr, hp', e1]
theorem loadVar_B9 (w : World) (b : Nat) (h : (w.blk b).size = 18) : (loadVar 117 ⟨b, 0, none⟩).run Tryz.prog w = .ok (.agg (sub (w.blk b) 0 18)) w := by
  have := run_load_bounds9 w b 0 (by omega)
  unfold ldRow at this
  rw [Sem.run_bind] at this
  simp only [Instr.loadAt, Instr.sureAddr, Sem.run_bind, Sem.run_pure, Result.andThen_ok] at this
  cases hr : (loadVar 117 ⟨b, 0, none⟩).run Tryz.prog w with
  | ok v w' => rw [hr] at this; simp at this; rw [this.1, this.2]
  | halt x w' => rw [hr] at this; simp [Result.andThen] at this
theorem results_B9 {fn : Func} {p : Tmp} (h : fn.results = #[.cell p 117]) (tmps : Array Value) (w : World) (b : Nat) (hp : tmps.getD p undef = .pointer (some ⟨b, 0, none⟩)) (h1 : (w.blk b).size = 18) :
    (results fn tmps).run Tryz.prog w = .ok (.agg (sub (w.blk b) 0 18)) w := by
  unfold results
  rw [h]
  have e1 := loadVar_B9 w b h1
  have hp' : tmps[p]?.getD undef = .pointer (some ⟨b, 0, none⟩) := by simpa using hp
  simp [asAddr, hp', e1]
theorem loadVar_B7 (w : World) (b : Nat) (h : (w.blk b).size = 14) : (loadVar 119 ⟨b, 0, none⟩).run Tryz.prog w = .ok (.agg (sub (w.blk b) 0 14)) w := by
  have := run_load_bounds7 w b 0 (by omega)
  unfold ldRow at this
  rw [Sem.run_bind] at this
  simp only [Instr.loadAt, Instr.sureAddr, Sem.run_bind, Sem.run_pure, Result.andThen_ok] at this
  cases hr : (loadVar 119 ⟨b, 0, none⟩).run Tryz.prog w with
  | ok v w' => rw [hr] at this; simp at this; rw [this.1, this.2]
  | halt x w' => rw [hr] at this; simp [Result.andThen] at this
theorem results_B7 {fn : Func} {p : Tmp} (h : fn.results = #[.cell p 119]) (tmps : Array Value) (w : World) (b : Nat) (hp : tmps.getD p undef = .pointer (some ⟨b, 0, none⟩)) (h1 : (w.blk b).size = 14) :
    (results fn tmps).run Tryz.prog w = .ok (.agg (sub (w.blk b) 0 14)) w := by
  unfold results
  rw [h]
  have e1 := loadVar_B7 w b h1
  have hp' : tmps[p]?.getD undef = .pointer (some ⟨b, 0, none⟩) := by simpa using hp
  simp [asAddr, hp', e1]
/-- What the package's own variables hold. -/
structure Glob (w : World) : Prop where
  size : 0 < w.heap.size ∧ 2 < w.heap.size ∧ 3 < w.heap.size
  resting : w.blk 0 = cellsOf [4, 5, 6, 7, 8, 9, 10, 11, 12]
  flag : w.blk 2 = cellsOf [0, 1]
  any : w.blk 3 = cellsOf [-1073741824, 1073741824]
theorem blk_grow {w w' : World} {b : Nat} (h : Grow w w') (hb : b < w.heap.size) : w'.blk b = w.blk b := by
  obtain ⟨x, rfl⟩ := h
  simp only [World.blk, plus_heap w x b hb]
theorem Grow.size {w w' : World} (h : Grow w w') : w.heap.size ≤ w'.heap.size := by
  obtain ⟨x, rfl⟩ := h
  rw [plus_size]; omega
theorem Glob.grow {w w' : World} (h : Glob w) (g : Grow w w') : Glob w' := by
  have := h.size
  exact ⟨⟨Nat.lt_of_lt_of_le h.size.1 g.size, Nat.lt_of_lt_of_le h.size.2.1 g.size, Nat.lt_of_lt_of_le h.size.2.2 g.size⟩, by rw [blk_grow g (by omega), h.resting], by rw [blk_grow g (by omega), h.flag], by rw [blk_grow g (by omega), h.any]⟩

/-- The bounds of an object's fields, two numbers each. -/
def objBounds (n : Int) : List Int := [0, 119, 0, 1, 0, 1, 0, 10, 0, 1, 0, 1, 0, 1073741824, 0, 1073741824, -1073741824, 1073741824, -1073741824, 1073741824, 0, 255, 0, 1, 0, n, 0, 2, 0, 3, 0, n, -2, n, 0, 3]
def plBounds : List Int := [-1073741824, 1073741824, 0, 1000, 0, 1000, 0, 1000, 0, 1000, 0, 1000, 0, 1000, 0, 1, 0, 1]
def gmBounds : List Int := [0, 1073741824, 0, 1, 0, 7, 0, 1, 0, 1, 0, 4096, 0, 3]

@[go_sem ↓] theorem build_b7 (ρ : Operand → Value) (dst : Option Tmp) (parts : Array (Nat × Operand)) (ty : TypeId) (pos : String) (after : Array Edge) (guard : Option (Nat × Bool)) :
    execOp ρ { dst, op := .build 119 parts, type := ty, pos, after, guard } = bdRow 119 (parts.map fun (i, x) => (i, ρ x)) := rfl
set_option maxRecDepth 100000 in
@[go_sem] theorem run_build_b7 (w : World) (a0 b0 a1 b1 a2 b2 a3 b3 a4 b4 a5 b5 a6 b6 : Int) :
    (bdRow 119 #[(0, .agg (cellsOf [a0, b0])), (1, .agg (cellsOf [a1, b1])), (2, .agg (cellsOf [a2, b2])), (3, .agg (cellsOf [a3, b3])), (4, .agg (cellsOf [a4, b4])), (5, .agg (cellsOf [a5, b5])), (6, .agg (cellsOf [a6, b6]))]).run Tryz.prog w
      = .ok (.value (.agg (cellsOf [a0, b0, a1, b1, a2, b2, a3, b3, a4, b4, a5, b5, a6, b6]))) w := by
  kernel_rfl
@[go_sem ↓] theorem build_b18 (ρ : Operand → Value) (dst : Option Tmp) (parts : Array (Nat × Operand)) (ty : TypeId) (pos : String) (after : Array Edge) (guard : Option (Nat × Bool)) :
    execOp ρ { dst, op := .build 114 parts, type := ty, pos, after, guard } = bdRow 114 (parts.map fun (i, x) => (i, ρ x)) := rfl
set_option maxRecDepth 100000 in
@[go_sem] theorem run_build_b18 (w : World) (a0 b0 a1 b1 a2 b2 a3 b3 a4 b4 a5 b5 a6 b6 a7 b7 a8 b8 a9 b9 a10 b10 a11 b11 a12 b12 a13 b13 a14 b14 a15 b15 a16 b16 a17 b17 : Int) :
    (bdRow 114 #[(0, .agg (cellsOf [a0, b0])), (1, .agg (cellsOf [a1, b1])), (2, .agg (cellsOf [a2, b2])), (3, .agg (cellsOf [a3, b3])), (4, .agg (cellsOf [a4, b4])), (5, .agg (cellsOf [a5, b5])), (6, .agg (cellsOf [a6, b6])), (7, .agg (cellsOf [a7, b7])), (8, .agg (cellsOf [a8, b8])), (9, .agg (cellsOf [a9, b9])), (10, .agg (cellsOf [a10, b10])), (11, .agg (cellsOf [a11, b11])), (12, .agg (cellsOf [a12, b12])), (13, .agg (cellsOf [a13, b13])), (14, .agg (cellsOf [a14, b14])), (15, .agg (cellsOf [a15, b15])), (16, .agg (cellsOf [a16, b16])), (17, .agg (cellsOf [a17, b17]))]).run Tryz.prog w
      = .ok (.value (.agg (cellsOf [a0, b0, a1, b1, a2, b2, a3, b3, a4, b4, a5, b5, a6, b6, a7, b7, a8, b8, a9, b9, a10, b10, a11, b11, a12, b12, a13, b13, a14, b14, a15, b15, a16, b16, a17, b17]))) w := by
  kernel_rfl
set_option maxRecDepth 100000 in
theorem game_any (w : World) (G : Glob w) :
    Calls Tryz.prog 73 #[] w fun e w' => e = .returned (.agg (cellsOf gmBounds)) ∧ Grow w w' := by
  obtain ⟨⟨ga, gb, gc⟩, g1, g2, g3⟩ := G; have nz0 : ¬ (w).heap.size = 0 := (by omega); have zn0 : ¬ 0 = (w).heap.size := (by omega); have nz1 : ¬ (w).heap.size = 2 := (by omega); have zn1 : ¬ 2 = (w).heap.size := (by omega); have nz2 : ¬ (w).heap.size = 3 := (by omega); have zn2 : ¬ 3 = (w).heap.size := (by omega)
  go_enter Tryz.func73, Tryz.ntmps73
  go_wp2_with fail
  refine bodyPost_ret (results_B7 rfl _ _ w.heap.size rfl ?_) rfl ?_
  · go_simp
  · exact ⟨by go_simp; rfl, (by repeat (first | exact Grow.refl _ | refine Grow.andr ?_ | refine Grow.plus ?_ _ | refine Grow.alloc ?_ _ | refine Grow.drew ?_ | refine Grow.drewN ?_ _))⟩

set_option maxRecDepth 100000 in
theorem objects_any (n : Int) (w : World) (G : Glob w) :
    Calls Tryz.prog 70 #[.int .i64 n] w fun e w' => e = .returned (.agg (cellsOf (objBounds n))) ∧ Grow w w' := by
  obtain ⟨⟨ga, gb, gc⟩, g1, g2, g3⟩ := G; have nz0 : ¬ (w).heap.size = 0 := (by omega); have zn0 : ¬ 0 = (w).heap.size := (by omega); have nz1 : ¬ (w).heap.size = 2 := (by omega); have zn1 : ¬ 2 = (w).heap.size := (by omega); have nz2 : ¬ (w).heap.size = 3 := (by omega); have zn2 : ¬ 3 = (w).heap.size := (by omega)
  go_enter Tryz.func70, Tryz.ntmps70
  go_wp2_with fail
  refine bodyPost_ret (results_B18 rfl _ _ w.heap.size rfl ?_) rfl ?_
  · go_simp
  · exact ⟨by go_simp; rfl, (by repeat (first | exact Grow.refl _ | refine Grow.andr ?_ | refine Grow.plus ?_ _ | refine Grow.alloc ?_ _ | refine Grow.drew ?_ | refine Grow.drewN ?_ _))⟩

def plTo : Nat → List Int
  | 0 => List.replicate 18 0
  | k + 1 => ((plTo k).set (k * 2) 0).set (k * 2 + 1) 1000
theorem plTo_len : ∀ k, (plTo k).length = 18
  | 0 => rfl
  | k + 1 => by rw [plTo, List.length_set, List.length_set, plTo_len k]

set_option maxRecDepth 100000 in
set_option maxHeartbeats 2000000 in
theorem players_any (w : World) (G : Glob w) :
    Calls Tryz.prog 72 #[] w fun e w' => e = .returned (.agg (cellsOf plBounds)) ∧ Grow w w' := by
  obtain ⟨⟨ga, gb, gc⟩, g1, g2, g3⟩ := G; have nz0 : ¬ (w).heap.size = 0 := (by omega); have zn0 : ¬ 0 = (w).heap.size := (by omega); have nz1 : ¬ (w).heap.size = 2 := (by omega); have zn1 : ¬ 2 = (w).heap.size := (by omega); have nz2 : ¬ (w).heap.size = 3 := (by omega); have zn2 : ¬ 3 = (w).heap.size := (by omega)
  go_enter Tryz.func72, Tryz.ntmps72
  go_wp2_with fail
  go_loopw [2, 3] (fun _ i wr => ∃ k : Nat, k ≤ 9 ∧ i = .int .i64 k ∧ wr = (w.alloc (.cells (cellsOf (List.replicate 18 0)) 117)).alloc (.cells (cellsOf (plTo k)) 117)) (fun _ i _ => 9 - (intOf i).toNat)
  case atStart => exact ⟨0, by omega, rfl, rfl⟩
  case round =>
    obtain ⟨k, hk, rfl, rfl⟩ := hrel
    have hl := plTo_len k
    by_cases hlt : k < 9
    · have hk2 : k * 2 + 2 ≤ 18 := by omega
      go_wp2_with fail
      exact ⟨⟨k + 1, by omega, by go_num, rfl⟩, by simp [intOf]; omega⟩
    · go_wp2_with fail
      go_region
      have hp : Hid (((((((plTo k).set 0 (-1073741824)).set 1 1073741824).set 14 0).set 15 1).set 16 0).set 17 1 = plBounds) := by rw [Hid, show k = 9 by omega]; rfl
      go_wp2_with fail
      refine bodyPost_ret (results_B9 rfl _ _ w.heap.size rfl ?_) rfl ?_
      · go_simp
      · exact ⟨by rw [← hp.out]; go_simp, (by repeat (first | exact Grow.refl _ | refine Grow.andr ?_ | refine Grow.plus ?_ _ | refine Grow.alloc ?_ _ | refine Grow.drew ?_ | refine Grow.drewN ?_ _))⟩
end Go.Proofs.YtibmnofpoenonaaGreatDoor
