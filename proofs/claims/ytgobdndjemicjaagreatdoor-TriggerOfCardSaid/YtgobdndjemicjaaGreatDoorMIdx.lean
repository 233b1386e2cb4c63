/-
  Which row of hits is the first of nothing.
-/
import Derived.Test.YtgobdndjemicjaaGreatDoorMHitR
namespace Go.Proofs.YtgobdndjemicjaaGreatDoor
open Go Go.RowKit

end Go.Proofs.YtgobdndjemicjaaGreatDoor
