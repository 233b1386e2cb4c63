/-
  A right state that an emitter does not touch.
  A wrong state: nobody is a creature.
-/
import Derived.Test.YtnjdkkgkaafdbaaGreatDoorMComb
import Derived.Test.YtnjdkkgkaafdbaaGreatDoorMEmPl
import Derived.Test.YtnjdkkgkaafdbaaGreatDoorMEm
namespace Go.Proofs.YtnjdkkgkaafdbaaGreatDoor
open Go Go.RowKit Go.Shelf

/-- A right state in memory that no turn of the emitter touches. -/
structure Side (w : World) (own : Nat → Prop) (S : St) (V : SV) : Prop where
  rs : RS S V w
  ap : ∀ k, V.uses k → ¬ own k ∧ k < w.heap.size
  vars : ∀ k, (k = 0 ∨ k = 1 ∨ k = 2) → ¬ own k
theorem Side.turn {w w' : World} {own own' : Nat → Prop} {S : St} {V : SV} (h : Side w own S V) (k : Kept own w w') (o : ∀ j, own' j → own j ∨ w.heap.size ≤ j) : Side w' own' S V := by
  obtain ⟨s1, s2, s3⟩ := h.rs.glob.size
  have hs := k.size
  refine ⟨⟨h.rs.rep.kept k (fun j hj => (h.ap j hj).1), h.rs.right, h.rs.small, ⟨⟨by omega, by omega, by omega⟩, by rw [k.blk _ s1 (h.vars _ (.inl rfl)), h.rs.glob.resting], by rw [k.blk _ s2 (h.vars _ (.inr (.inl rfl))), h.rs.glob.flag], by rw [k.blk _ s3 (h.vars _ (.inr (.inr rfl))), h.rs.glob.any]⟩⟩, fun j hj => ⟨fun h2 => ?_, by have := (h.ap j hj).2; omega⟩, fun j hj h2 => ?_⟩
  · rcases o j h2 with h3 | h3
    · exact (h.ap j hj).1 h3
    · have := (h.ap j hj).2; omega
  · rcases o j h2 with h3 | h3
    · exact h.vars j hj h3
    · rcases hj with rfl | rfl | rfl <;> omega
theorem Side.grow {w w' : World} {own : Nat → Prop} {S : St} {V : SV} (h : Side w own S V) (g : Grow w w') : Side w' own S V := h.turn (g.kept own) (fun _ h => .inl h)
end Go.Proofs.YtnjdkkgkaafdbaaGreatDoor
namespace Go.Proofs.YtnjdkkgkaafdbaaGreatDoor
open Go Go.RowKit Go.Shelf

/-- A wrong state in memory. -/
structure WS (S : St) (V : SV) (w : World) : Prop where
  rep : RepSt w V S
  small : Small S
  glob : Glob w
  bad : checkN S ≠ 0
theorem WS.grow {S : St} {V : SV} {w w' : World} (h : WS S V w) (g : Grow w w') : WS S V w' := ⟨h.rep.grow g, h.small, h.glob.grow g, h.bad⟩
theorem WS.check {S : St} {V : SV} {w : World} (h : WS S V w) : Calls Tryz.prog 32 #[.agg (stA V S.num)] w fun e w' => e = .returned (.iface 93 (.int .i64 (checkN S))) ∧ Grow w w' := by
  refine (check_any S V w h.rep h.small h.glob).mono ?_
  rintro e w' ⟨rfl, g⟩
  exact ⟨by rw [errV_is h.bad], g⟩
set_option maxRecDepth 100000 in
theorem is_wrong (S : St) (V : SV) (w : World) (h : WS S V w) (id : Int) :
    Calls Tryz.prog 40 #[.agg (stA V S.num), .int .i64 id] w fun e w' => e = .returned (.bool false) ∧ Grow w w' := by
  have HC := Lib.hid (fun W (g : Grow w W) => (h.grow g).check)
  clear h
  go_enter Tryz.func40, Tryz.ntmps40
  go_wp2_with (go_at_call 32; refine (HC.out _ grI).mono ?_; rintro e' w' ⟨rfl, nx, rfl⟩)
  go_ret
  exact ⟨rfl, grI⟩
end Go.Proofs.YtnjdkkgkaafdbaaGreatDoor
