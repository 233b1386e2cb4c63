/-
  The law CombatSums holds for any state: the tied card.
-/
import Derived.Test.YtmmkmhpchoelkaaDoorSums
import Derived.Test.YtmmkmhpchoelkaaDoorCards
import Derived.Test.YtmmkmhpchoelkaaDoorTie
namespace Go.Proofs.YtmmkmhpchoelkaaDoor
open Go

theorem combatSums_holds : Rows.CombatSumsCardSaid :=
  Claim7.holds_tied_plain_at .later [] [.data, .data, .widerDeep] true (true, "3b19ac37d81f1dffb0481e9b1bd272e36bdc1ebf23938815ad347293f72d2180") false
    combatSums_plain (fun _ h => by cases h) (by kernel_rfl) (fun _ h => by cases h) combatSums_row_tie rfl ⟨rfl, rfl⟩ (by kernel_rfl) rfl
    (fun f fn hf hfn => by
      obtain rfl : f = 4 := Option.some.inj (hf.symm.trans (by kernel_rfl))
      obtain rfl : fn = Tryd.f4 := (Option.some.inj (Tryd.func4.symm.trans hfn)).symm
      exact ⟨by kernel_rfl, fun j t ht => by
        rw [Tryd.params4] at ht
        have hm : t ∈ [29] := by simpa using Array.mem_of_getElem? ht
        have hall : ([29].all fun u => !Tryd.prog.wantsStandIn u) = true := by kernel_rfl
        exact (show Tryd.prog.wantsStandIn t = false by simpa using List.all_eq_true.1 hall t hm)⟩)
    (by kernel_rfl)
#print axioms combatSums_holds
end Go.Proofs.YtmmkmhpchoelkaaDoor
