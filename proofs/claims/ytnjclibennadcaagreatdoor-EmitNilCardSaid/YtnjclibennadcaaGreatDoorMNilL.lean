/-
  The law EmitNil holds for any input.
-/
import Derived.Test.YtnjclibennadcaaGreatDoorMLawS
import Derived.Test.YtnjclibennadcaaGreatDoorMOpenAct
import Derived.Test.YtnjclibennadcaaGreatDoorMLawNil
namespace Go.Proofs.YtnjclibennadcaaGreatDoor
open Go Go.RowKit Go.ChangeShapes Go.WideShapes Go.ChangeAt

/-- The heap that the program's own run leaves meets the condition. -/
theorem door_metEmitNil (os : Os) (args : Array Value) : laidMetH Tryz.prog laid4 ((World.doorLaid Tryz.prog 400 os).forCall (fun _ _ => 0) ⟨#[], args, []⟩).memory :=
  laidMetH_of_parts3 (fuel := 8) (laidMet_of_run' 8 (by kernel_rfl) (by kernel_rfl)) (by kernel_rfl) (by kernel_rfl)

/-- The empty state. -/
def emptyStEmitNil : Value := .agg ((List.replicate 12 (Value.slice none 0 0) ++ List.replicate 25 (Value.int .i64 0)).toArray)

set_option maxRecDepth 100000 in
theorem emitNil_lifted (os : Os) (started : os.Started) (H : Type) (enc : TypeId × Value → H) :
    ReturnsInHanded {} Tryz.checked os 10 .any (fun w args => (Rows.emitNilSpec.pre enc Tryz.prog Tryz.f10 [] false w args ∧ laidMetH Tryz.prog laid4 w) ∧ sizedMet enc Tryz.prog Tryz.f10 (OpenSpec.ofChange Rows.emitNilSpec) false w args)
      (Rows.emitNilSpec.post enc Tryz.prog Tryz.f10 false true false false) := by
  refine returnsInHanded_of_change_and (C := Tryz.checked) (X := fun w _ => laidMetH Tryz.prog laid4 w) (fun _ _ _ hh h => h.of_heap hh) own_Tryz started (by kernel_rfl) Tryz.func10
    (ChangeSpec.witness_shaped (enc := enc) (C := Tryz.checked) (os := os) (X := fun w _ => laidMetH Tryz.prog laid4 w) false (World.doorLaid Tryz.prog 400 os) #[emptyStEmitNil, .slice none 0 0, .int .i64 0] 8 rfl (World.shaped_of_RefB (by kernel_rfl) (by kernel_rfl)) (by kernel_rfl) (by kernel_rfl) (by kernel_rfl) (door_metEmitNil os _)) ?_
  intro W base args ds gs before hval0 hW _ _ hL _
  have hval : ∀ (j : Nat) t v, Tryz.f10.params[j]? = some t → args[j]? = some v → Value.okWide Tryz.prog W .any base t v := hval0
  have hW' := hW
  obtain ⟨p, q, hA0, hV, rfl, _, _⟩ := hW
  have hA : DataW.TrodAll enc Tryz.prog W 0 (fun _ => true) true Tryz.f10.params.toList args.toList ds p := hA0
  rw [Tryz.params10] at hA hval
  obtain ⟨v0, v1, v2, d0, d1, d2, p0, p1, p2, rfl, rfl, rfl, h0, h1, h2⟩ := trodAll_three hA
  obtain ⟨rfl, rfl⟩ := trodVars_none hV
  obtain ⟨V0, S0, rfl, R0⟩ := open_State (hval 0 29 v0 rfl rfl) h0
  obtain ⟨s1, l1, rfl, A1, B1⟩ := open_Acts (hval 1 74 v1 rfl rfl) h1
  obtain ⟨n2, rfl, _⟩ := open_int Tryz.underlying3 (hval 2 3 v2 rfl rfl) h2
  refine (nil_law S0 V0 W R0 (globE_of_laid hL) (fun W' g => alive19_any W' ((globE_of_laid hL).kept (g.kept _) (fun _ hk => Or.inr (Nat.le_trans g.below.size hk)))) s1 l1 A1 B1 n2).mono fun e W' ⟨he, hg⟩ => ?_
  subst he
  exact ⟨_, rfl, law_post laidOut_Tryz hW' rfl (by kernel_rfl) Tryz.underlying4 (by kernel_rfl) rfl rfl rfl hg.below⟩

theorem emitNil_plain : Rows.EmitNilSaid :=
  OpenClaim.holds_of_wide 10 Tryz.f10 rfl rfl rfl rfl rfl rfl rfl ⟨rfl, rfl, rfl, rfl, rfl⟩ rfl rfl rfl rfl rfl (by kernel_rfl) Tryz.func10 (by kernel_rfl)
    (of_decide_eq_true (by kernel_rfl)) (by unfold Func.isWrapper; first | (rw [if_pos (by decide +kernel)]; kernel_rfl) | (rw [if_neg (by decide +kernel)]; exact ⟨rfl, rfl⟩))
    (fun os started H enc _ => emitNil_lifted os started H enc)
#print axioms emitNil_plain
end Go.Proofs.YtnjclibennadcaaGreatDoor
