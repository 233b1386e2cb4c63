/-
  What an emitter's Shuffle does, as plain functions.
-/
import Derived.Test.YtgobdndjemicjaaGreatDoorMAc1
namespace Go.Proofs.YtgobdndjemicjaaGreatDoor
open Go Go.RowKit Go.Shelf

/-! ### Orders -/
end Go.Proofs.YtgobdndjemicjaaGreatDoor
