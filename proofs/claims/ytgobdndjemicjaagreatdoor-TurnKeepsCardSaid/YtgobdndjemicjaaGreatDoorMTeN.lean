/-
  What settling leaves: the plain law of TriggerEmpty.
-/
import Derived.Test.YtgobdndjemicjaaGreatDoorMTrF
namespace Go.Proofs.YtgobdndjemicjaaGreatDoor
open Go Go.RowKit Go.Shelf

end Go.Proofs.YtgobdndjemicjaaGreatDoor
