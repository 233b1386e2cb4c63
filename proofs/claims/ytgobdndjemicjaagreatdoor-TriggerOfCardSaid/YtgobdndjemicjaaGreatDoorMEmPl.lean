/-
  The walks of an emitter's Player and Life.
-/
import Derived.Test.YtgobdndjemicjaaGreatDoorMEm
namespace Go.Proofs.YtgobdndjemicjaaGreatDoor
open Go Go.RowKit Go.Shelf

@[go_sem] theorem run_build_evPl (w : World) (a f : Int) : (bdRow 122 #[(0, .int .i64 3), (1, .int .i64 a), (2, .int .i64 f)]).run Tryz.prog w = .ok (.value (.agg (cellsOf [3, a, f, 0, 0, 0]))) w := by kernel_rfl
end Go.Proofs.YtgobdndjemicjaaGreatDoor
