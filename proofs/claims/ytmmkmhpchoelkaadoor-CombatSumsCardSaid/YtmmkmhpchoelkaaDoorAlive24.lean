/-
  The chapter's example of a fight.
-/
import Derived.Test.YtmmkmhpchoelkaaDoorSumsN
import Derived.Test.YtmmkmhpchoelkaaDoorHost2
namespace Go.Proofs.YtmmkmhpchoelkaaDoor
open Go Go.RowKit Go.Shelf

def caR0 : List Int := [116, 0, 0, 8, 0, 0, 0, 0, 0, 0, 64, 1, 0, 0, 0, 0, 0, 0]
def caR1 : List Int := [112, 1, 1, 8, 0, 0, 0, 0, 0, 0, 0, 0, 1, 0, 0, 0, 0, 0]
/-- The chapter's example. -/
def caS : St := { objs := [caR0, caR1], list := upd (fun _ => []) 8 [0, 1], num := fun _ => 0 }
theorem ca_right : Right caS := (checkN_zero caS).1 (by decide +kernel)
theorem ca_hits : HitsN caS = [[0, 2, 1], [0, -2, 2], [1, 1, 1]] := by decide +kernel
@[go_sem ↓] theorem build_caSt (ρ : Operand → Value) (dst : Option Tmp) (parts : Array (Nat × Operand)) (ty : TypeId) (pos : String) (after : Array Edge) (guard : Option (Nat × Bool)) :
    execOp ρ { dst, op := .build 29 parts, type := ty, pos, after, guard } = bdRow 29 (parts.map fun (i, x) => (i, ρ x)) := rfl
@[go_sem] theorem ca_build0 (w : World) : (bdRow 48 #[(0, .int .i64 116), (3, .int .i64 8), (10, .int .i64 64), (11, .int .i64 1)]).run Tryd.prog w = .ok (.value (.agg (cellsOf caR0))) w := by kernel_rfl
@[go_sem] theorem ca_build1 (w : World) : (bdRow 48 #[(0, .int .i64 112), (1, .int .i64 1), (2, .int .i64 1), (3, .int .i64 8), (12, .int .i64 1)]).run Tryd.prog w = .ok (.value (.agg (cellsOf caR1))) w := by kernel_rfl
/-- Its objects' cells. -/
def caCells : List Int := [116, 0, 0, 8, 0, 0, 0, 0, 0, 0, 64, 1, 0, 0, 0, 0, 0, 0, 112, 1, 1, 8, 0, 0, 0, 0, 0, 0, 0, 0, 1, 0, 0, 0, 0, 0]
set_option maxRecDepth 100000 in
@[go_sem] theorem ca_slice (w : World) : (bsRow 22 2 #[(0, .agg (cellsOf caR0)), (1, .agg (cellsOf caR1))]).run Tryd.prog w
    = .ok (.value (.slice (some ⟨w.heap.size, 0, none⟩) 2 2)) (w.alloc (.cells (cellsOf caCells) 48)) := by kernel_rfl
set_option maxRecDepth 100000 in
@[go_sem] theorem ca_state (w : World) (b : Nat) : (bdRow 29 #[(0, .slice (some ⟨b, 0, none⟩) 2 2)]).run Tryd.prog w = .ok (.value (.agg (stA ⟨.mk b 0 2 2, fun _ => .nil⟩ fun _ => 0))) w := by kernel_rfl
def caV0 (b : Nat) : SV := ⟨.mk b 0 2 2, fun _ => .nil⟩
/-- Its slices. -/
def caV (b : Nat) : SV := ⟨.mk b 0 2 2, upd (fun _ => .nil) 8 (.mk (b + 1 + 1) 0 2 2)⟩
@[go_sem] theorem run_storeX_caInts (w : World) (b o sb so n c : Nat) (h : (w.cell? ⟨b, o, none⟩).isSome = true) (hf : w.frozen? ⟨b, o, none⟩ = false) : (stRow 23 (.pointer (some ⟨b, o, none⟩)) (.slice (some ⟨sb, so, none⟩) n c)).run Tryd.prog w = .ok .skip (w.setCell ⟨b, o, none⟩ (.slice (some ⟨sb, so, none⟩) n c)) :=
  run_stSl w b o 23 (.mk sb so n c) (by kernel_rfl) h hf
@[go_sem] theorem ca_put (b : Nat) : (stA { objs := .mk b 0 2 2, list := fun _ => .nil } fun _ => 0).setIfInBounds 9 (.slice (some ⟨b + 1 + 1, 0, none⟩) 2 2) = stA (caV b) fun _ => 0 :=
  stA_setList (caV0 b) (fun _ => 0) 8 (.mk (b + 1 + 1) 0 2 2) (by omega)
theorem ca_rep (w : World) : RepSt (((w.alloc (.cells (cellsOf caCells) 48)).alloc (.cells (stA (caV w.heap.size) fun _ => 0) 29)).alloc (.cells (cellsOf [0, 1]) 3)) (caV w.heap.size) caS := by
  have hf : flat caS.objs = caCells.map I := rfl
  have h1 : ∀ i, (((w.alloc (.cells (cellsOf caCells) 48)).alloc (.cells (stA (caV w.heap.size) fun _ => 0) 29)).alloc (.cells (cellsOf [0, 1]) 3)).cell? ⟨w.heap.size, i, none⟩ = (cellsOf caCells)[i]? := fun i => by go_simp
  have hO : Cells (((w.alloc (.cells (cellsOf caCells) 48)).alloc (.cells (stA (caV w.heap.size) fun _ => 0) 29)).alloc (.cells (cellsOf [0, 1]) 3)) (.mk w.heap.size 0 2 2) 18 (caCells.map I) := by
    refine ⟨(by simp [caCells, Sl.n]), (by show 2 ≤ 2; omega), fun j u hu => ?_⟩
    show World.cell? _ ⟨w.heap.size, 0 + j, none⟩ = some u
    rw [h1, Nat.zero_add, ← hu]
    simp [cellsOf]
  rw [← hf] at hO
  refine ⟨hO.rows (by omega) (fun i hi => ?_), fun z hz => ?_⟩
  · have hi : i < 2 := hi
    have : i = 0 ∨ i = 1 := by omega
    rcases this with rfl | rfl <;> rfl
  · by_cases h8 : z = 8
    · subst h8
      have h1 : ∀ i, (((w.alloc (.cells (cellsOf caCells) 48)).alloc (.cells (stA (caV w.heap.size) fun _ => 0) 29)).alloc (.cells (cellsOf [0, 1]) 3)).cell? ⟨w.heap.size + 1 + 1, i, none⟩ = (cellsOf [0, 1])[i]? := fun i => by go_simp
      exact ⟨rfl, Nat.le_refl _, fun i hi => by
        show World.cell? _ ⟨w.heap.size + 1 + 1, 0 + i, none⟩ = _
        rw [h1, Nat.zero_add]
        exact cellsOf_get _ _ hi⟩
    · have e1 : (caV w.heap.size).list z = .nil := by simp [caV, upd, h8]
      have e2 : caS.list z = [] := by simp [caS, upd, h8]
      rw [e1, e2]; exact Ints.nil _
theorem ca_small : Small caS := ⟨by decide, fun z hz => by simp only [caS, upd]; (repeat' split) <;> simp⟩
set_option maxRecDepth 100000 in
set_option maxHeartbeats 2000000 in
theorem alive24_any (w : World) (GL : Glob w) : Calls Tryd.prog 12 #[] w fun e w' => e = .returned (.bool true) ∧ Grow w w' := by
  go_enter Tryd.func12, Tryd.ntmps12
  have HR := Lib.hid (fun W (g : Grow (((w.alloc (.cells (cellsOf caCells) 48)).alloc (.cells (stA (caV w.heap.size) fun _ => 0) 29)).alloc (.cells (cellsOf [0, 1]) 3)) W) => (show RS caS (caV w.heap.size) W from ⟨(ca_rep w).grow g, ca_right, ca_small, (GL.grow (by repeat (first | exact Grow.refl _ | refine Grow.andr ?_ | refine Grow.plus ?_ _ | refine Grow.alloc ?_ _ | refine Grow.drew ?_ | refine Grow.drewN ?_ _))).grow g⟩))
  clear GL
  go_wp2_with (go_at_call 13; refine (allHits_any caS (caV w.heap.size) _ (HR.out _ (by repeat (first | exact Grow.refl _ | refine Grow.andr ?_ | refine Grow.plus ?_ _ | refine Grow.alloc ?_ _ | refine Grow.drew ?_ | refine Grow.drewN ?_ _))) (by decide)).mono ?_; rintro e' W1 ⟨sh, rfl, hr, hg⟩; rw [ca_hits] at hr; have hsn := hr.len; obtain ⟨a1, a2, a3, a4, _⟩ := hr.at (by decide) 0 (by decide); obtain ⟨b1, b2, b3, b4, _⟩ := hr.at (by decide) 1 (by decide); obtain ⟨c1, c2, c3, c4, _⟩ := hr.at (by decide) 2 (by decide); have HG := Lib.hid (show Grow w W1 from Grow.trans (by repeat (first | exact Grow.refl _ | refine Grow.andr ?_ | refine Grow.plus ?_ _ | refine Grow.alloc ?_ _ | refine Grow.drew ?_ | refine Grow.drewN ?_ _)) hg); have a4' : sub (W1.blk sh.b) sh.o 3 = cellsOf [0, 2, 1] := a4; have b4' : sub (W1.blk sh.b) (sh.o + 3) 3 = cellsOf [0, -2, 2] := b4; have c4' : sub (W1.blk sh.b) (sh.o + 6) 3 = cellsOf [1, 1, 1] := c4; have s1 : sh.o + 3 ≤ (W1.blk sh.b).size := (by omega); have s2 : sh.o + 3 + 3 ≤ (W1.blk sh.b).size := (by omega); have s3 : sh.o + 6 ≤ (W1.blk sh.b).size := (by omega); have s4 : sh.o + 6 + 3 ≤ (W1.blk sh.b).size := (by omega); have s5 : sh.o + 9 ≤ (W1.blk sh.b).size := (by omega); clear hr hg a2 b2 c2 a3 b3 c3 a4 b4 c4 b1 c1)
  go_ret
  exact ⟨rfl, HG.out⟩
end Go.Proofs.YtmmkmhpchoelkaaDoor
