/-
  The law EmitNil holds for any input: the tied card.
-/
import Derived.Test.YtnjclibennadcaaGreatDoorMNilL
import Derived.Test.YtnjclibennadcaaGreatDoorCards
import Derived.Test.YtnjclibennadcaaGreatDoorTie
namespace Go.Proofs.YtnjclibennadcaaGreatDoor
open Go

theorem emitNil_holds : Rows.EmitNilCardSaid :=
  Claim7.holds_tied_plain_at .later [] [.data, .data, .widerDeep, .data] true (true, "1b6453b7da38b0824abd26a74255809f06dc9792d477250d46d78bb8069a280b") true
    emitNil_plain (fun _ h => by cases h) (by kernel_rfl) (fun _ h => by cases h) emitNil_row_tie rfl ⟨rfl, rfl⟩ (by kernel_rfl) rfl
    (fun f fn hf hfn => by
      obtain rfl : f = 10 := Option.some.inj (hf.symm.trans (by kernel_rfl))
      obtain rfl : fn = Tryz.f10 := (Option.some.inj (Tryz.func10.symm.trans hfn)).symm
      exact ⟨by kernel_rfl, fun j t ht => by
        rw [Tryz.params10] at ht
        have hm : t ∈ [29, 74, 3] := by simpa using Array.mem_of_getElem? ht
        have hall : ([29, 74, 3].all fun u => !Tryz.prog.wantsStandIn u) = true := by kernel_rfl
        exact (show Tryz.prog.wantsStandIn t = false by simpa using List.all_eq_true.1 hall t hm)⟩)
    (by kernel_rfl)
#print axioms emitNil_holds
end Go.Proofs.YtnjclibennadcaaGreatDoor
