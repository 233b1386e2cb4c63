/-
  The law CheckTells holds for any input: the tied card.
-/
import Derived.Test.YtibmnofpoenonaaGreatDoorMTellsL
import Derived.Test.YtibmnofpoenonaaGreatDoorCards
import Derived.Test.YtibmnofpoenonaaGreatDoorTie
namespace Go.Proofs.YtibmnofpoenonaaGreatDoor
open Go

theorem checkTells_holds : Rows.CheckTellsCardSaid :=
  Claim7.holds_tied_plain_at .later [] [.data, .data, .widerDeep, .data] true (true, "008c5060a6b3f810f8f7a481f993caa036b0a334e003216f15d46bae9a364dad") true
    checkTells_plain (fun _ h => by cases h) (by kernel_rfl) (fun _ h => by cases h) checkTells_row_tie rfl ⟨rfl, rfl⟩ (by kernel_rfl) rfl
    (fun f fn hf hfn => by
      obtain rfl : f = 4 := Option.some.inj (hf.symm.trans (by kernel_rfl))
      obtain rfl : fn = Tryz.f4 := (Option.some.inj (Tryz.func4.symm.trans hfn)).symm
      exact ⟨by kernel_rfl, fun j t ht => by
        rw [Tryz.params4] at ht
        have hm : t ∈ [29, 3] := by simpa using Array.mem_of_getElem? ht
        have hall : ([29, 3].all fun u => !Tryz.prog.wantsStandIn u) = true := by kernel_rfl
        exact (show Tryz.prog.wantsStandIn t = false by simpa using List.all_eq_true.1 hall t hm)⟩)
    (by kernel_rfl)
#print axioms checkTells_holds
end Go.Proofs.YtibmnofpoenonaaGreatDoor
