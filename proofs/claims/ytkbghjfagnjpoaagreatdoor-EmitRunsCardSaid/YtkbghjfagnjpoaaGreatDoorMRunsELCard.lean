/-
  The law EmitRuns holds for any input: the tied card.
-/
import Derived.Test.YtkbghjfagnjpoaaGreatDoorMRunsEL
import Derived.Test.YtkbghjfagnjpoaaGreatDoorCards
import Derived.Test.YtkbghjfagnjpoaaGreatDoorTie
namespace Go.Proofs.YtkbghjfagnjpoaaGreatDoor
open Go

theorem emitRuns_holds : Rows.EmitRunsCardSaid :=
  Claim7.holds_tied_plain_at .later [] [.data, .data, .widerDeep, .data] true (true, "d6cc13d75eb908e5cbaaf83d8e65ea09c50215341d85eac0f7ce983ab2d6a39e") false
    emitRuns_plain (fun _ h => by cases h) (by kernel_rfl) (fun _ h => by cases h) emitRuns_row_tie rfl ⟨rfl, rfl⟩ (by kernel_rfl) rfl
    (fun f fn hf hfn => by
      obtain rfl : f = 5 := Option.some.inj (hf.symm.trans (by kernel_rfl))
      obtain rfl : fn = Tryz.f5 := (Option.some.inj (Tryz.func5.symm.trans hfn)).symm
      exact ⟨by kernel_rfl, fun j t ht => by
        rw [Tryz.params5] at ht
        have hm : t ∈ [29, 23, 45] := by simpa using Array.mem_of_getElem? ht
        have hall : ([29, 23, 45].all fun u => !Tryz.prog.wantsStandIn u) = true := by kernel_rfl
        exact (show Tryz.prog.wantsStandIn t = false by simpa using List.all_eq_true.1 hall t hm)⟩)
    (by kernel_rfl)
#print axioms emitRuns_holds
end Go.Proofs.YtkbghjfagnjpoaaGreatDoor
