/-
  The law TriggerEmpty holds for any input.
  The law TriggerEmpty holds for any input: the tied card.
-/
import Derived.Test.YtgobdndjemicjaaGreatDoorMLawS
import Derived.Test.YtgobdndjemicjaaGreatDoorMTe
import Derived.Test.YtgobdndjemicjaaGreatDoorCards
import Derived.Test.YtgobdndjemicjaaGreatDoorTie
namespace Go.Proofs.YtgobdndjemicjaaGreatDoor
open Go Go.RowKit Go.ChangeShapes Go.WideShapes Go.ChangeAt

/-- The heap that the program's own run leaves meets the condition. -/
theorem door_metTriggerEmpty (os : Os) (args : Array Value) : laidMetH Tryz.prog laid4 ((World.doorLaid Tryz.prog 400 os).forCall (fun _ _ => 0) ⟨#[], args, []⟩).memory :=
  laidMetH_of_parts3 (fuel := 8) (laidMet_of_run' 8 (by kernel_rfl) (by kernel_rfl)) (by kernel_rfl) (by kernel_rfl)

/-- The empty state. -/
def emptyStTriggerEmpty : Value := .agg ((List.replicate 12 (Value.slice none 0 0) ++ List.replicate 25 (Value.int .i64 0)).toArray)

set_option maxRecDepth 100000 in
theorem triggerEmpty_lifted (os : Os) (started : os.Started) (H : Type) (enc : TypeId × Value → H) :
    ReturnsInHanded {} Tryz.checked os 6 .any (fun w args => (Rows.triggerEmptySpec.pre enc Tryz.prog Tryz.f6 [] false w args ∧ laidMetH Tryz.prog laid4 w) ∧ sizedMet enc Tryz.prog Tryz.f6 (OpenSpec.ofChange Rows.triggerEmptySpec) false w args)
      (Rows.triggerEmptySpec.post enc Tryz.prog Tryz.f6 false true false false) := by
  refine returnsInHanded_of_change_and (C := Tryz.checked) (X := fun w _ => laidMetH Tryz.prog laid4 w) (fun _ _ _ hh h => h.of_heap hh) own_Tryz started (by kernel_rfl) Tryz.func6
    (ChangeSpec.witness_shaped (enc := enc) (C := Tryz.checked) (os := os) (X := fun w _ => laidMetH Tryz.prog laid4 w) false (World.doorLaid Tryz.prog 400 os) #[emptyStTriggerEmpty, .slice none 0 0] 8 rfl (World.shaped_of_RefB (by kernel_rfl) (by kernel_rfl)) (by kernel_rfl) (by kernel_rfl) (by kernel_rfl) (door_metTriggerEmpty os _)) ?_
  intro W base args ds gs before hval0 hW _ _ hL _
  have hval : ∀ (j : Nat) t v, Tryz.f6.params[j]? = some t → args[j]? = some v → Value.okWide Tryz.prog W .any base t v := hval0
  have hW' := hW
  obtain ⟨p, q, hA0, hV, rfl, _, _⟩ := hW
  have hA : DataW.TrodAll enc Tryz.prog W 0 (fun _ => true) true Tryz.f6.params.toList args.toList ds p := hA0
  rw [Tryz.params6] at hA hval
  obtain ⟨v0, v1, d0, d1, p0, p1, rfl, rfl, rfl, h0, h1⟩ := trodAll_two hA
  obtain ⟨rfl, rfl⟩ := trodVars_none hV
  obtain ⟨V0, S0, rfl, R0⟩ := open_State (hval 0 29 v0 rfl rfl) h0
  obtain ⟨s1, l1, rfl, A1, B1⟩ := open_ActsIn (hval 1 62 v1 rfl rfl) h1
  refine (empty_law S0 V0 W R0 (globE_of_laid hL) (fun W' g => alive21_any W' ((globE_of_laid hL).kept (g.kept _) (fun _ hk => Or.inr (Nat.le_trans g.below.size hk)))) s1 l1 A1 B1).mono fun e W' ⟨he, hg⟩ => ?_
  subst he
  exact ⟨_, rfl, law_post laidOut_Tryz hW' rfl (by kernel_rfl) Tryz.underlying4 (by kernel_rfl) rfl rfl rfl hg.below⟩

theorem triggerEmpty_plain : Rows.TriggerEmptySaid :=
  OpenClaim.holds_of_wide 6 Tryz.f6 rfl rfl rfl rfl rfl rfl rfl ⟨rfl, rfl, rfl, rfl, rfl⟩ rfl rfl rfl rfl rfl (by kernel_rfl) Tryz.func6 (by kernel_rfl)
    (of_decide_eq_true (by kernel_rfl)) (by unfold Func.isWrapper; first | (rw [if_pos (by decide +kernel)]; kernel_rfl) | (rw [if_neg (by decide +kernel)]; exact ⟨rfl, rfl⟩))
    (fun os started H enc _ => triggerEmpty_lifted os started H enc)
#print axioms triggerEmpty_plain
end Go.Proofs.YtgobdndjemicjaaGreatDoor
namespace Go.Proofs.YtgobdndjemicjaaGreatDoor
open Go

theorem triggerEmpty_holds : Rows.TriggerEmptyCardSaid :=
  Claim7.holds_tied_plain_at .later [] [.data, .data, .widerDeep, .data] true (true, "7ee5918bc5168af762b4280bf422be672ee7d56b6d83da876fb0fe5d82d8e72c") true
    triggerEmpty_plain (fun _ h => by cases h) (by kernel_rfl) (fun _ h => by cases h) triggerEmpty_row_tie rfl ⟨rfl, rfl⟩ (by kernel_rfl) rfl
    (fun f fn hf hfn => by
      obtain rfl : f = 6 := Option.some.inj (hf.symm.trans (by kernel_rfl))
      obtain rfl : fn = Tryz.f6 := (Option.some.inj (Tryz.func6.symm.trans hfn)).symm
      exact ⟨by kernel_rfl, fun j t ht => by
        rw [Tryz.params6] at ht
        have hm : t ∈ [29, 62] := by simpa using Array.mem_of_getElem? ht
        have hall : ([29, 62].all fun u => !Tryz.prog.wantsStandIn u) = true := by kernel_rfl
        exact (show Tryz.prog.wantsStandIn t = false by simpa using List.all_eq_true.1 hall t hm)⟩)
    (by kernel_rfl)
#print axioms triggerEmpty_holds
end Go.Proofs.YtgobdndjemicjaaGreatDoor
