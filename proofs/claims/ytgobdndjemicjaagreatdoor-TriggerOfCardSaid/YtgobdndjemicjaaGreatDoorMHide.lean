/-
  The walk of know's Hide.
-/
import Derived.Test.YtgobdndjemicjaaGreatDoorMShN
namespace Go.Proofs.YtgobdndjemicjaaGreatDoor
open Go Go.RowKit

@[go_sem] theorem run_build_evSet (w : World) (k a f u v : Int) : (bdRow 122 #[(0, .int .i64 k), (1, .int .i64 a), (2, .int .i64 f), (3, .int .i64 u), (4, .int .i64 v)]).run Tryz.prog w = .ok (.value (.agg (cellsOf [k, a, f, u, v, 0]))) w := by kernel_rfl
end Go.Proofs.YtgobdndjemicjaaGreatDoor
