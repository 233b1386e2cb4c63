/-
  What the package's variables hold, out of a row that lists five of them: the phases' names, too.
  The law TurnKeeps holds for any input.
  The law TurnKeeps holds for any input: the tied card.
-/
import Derived.Test.YtgobdndjemicjaaGreatDoorMLawS
import Derived.Test.YtgobdndjemicjaaGreatDoorMPutN
import Derived.Test.YtgobdndjemicjaaGreatDoorMKeep
import Derived.Test.YtgobdndjemicjaaGreatDoorCards
import Derived.Test.YtgobdndjemicjaaGreatDoorTie
namespace Go.Proofs.YtgobdndjemicjaaGreatDoor
open Go Go.RowKit Go.ChangeShapes Go.WideShapes Go.ChangeAt

/-- The variables that the row lists. -/
def laid5 : List (String × DataW Unit) := Rows.turnKeepsRow.laid
theorem var_cell {P : Program} {W : World} {n : String} {g : Nat} {cs : Array Value} (hg : P.globalNamed n = some g) (h : W.var? P n = some cs) (i : Nat) : W.cell? ⟨g, i, none⟩ = cs[i]? := by
  simp only [World.var?, hg, Option.bind_some] at h
  split at h
  · rename_i h2
    injection h with h
    subst h
    simp [World.cell?, h2]
  · cases h
theorem cell_grow25 {w w' : World} {b o : Nat} {v : Value} (g : Grow w w') (h : w.cell? ⟨b, o, none⟩ = some v) : w'.cell? ⟨b, o, none⟩ = some v := by
  obtain ⟨x, rfl⟩ := g
  rw [plus_cell_lt _ _ _ _ (cell_blk h).1]; exact h
theorem laid_str {H : Type} {enc : TypeId × Value → H} {P : Program} {W : World} {sp : Nat → Bool} {held : Bool} {fuel n : Nat} {t e : TypeId} {cs : Array Value} {p : List MemPlace} {l : List (DataW H)} (ht : P.underlying t = some (.array n e)) (he : P.underlying e = some .string)
    (h1 : P.cellsOf e = 1) (h : DataW.trod enc P W 0 sp held fuel t cs.toList = some (.agg l, p)) (i : Nat) (hi : i < n) {b : List UInt8} (hb : l[i]? = some (.lit (.string b))) : ∃ s : ByteArray, cs[i]? = some (.string s) ∧ s.data.toList = b := by
  obtain ⟨xs, m, _, hx, hsz, hxl, hel⟩ := DataW.trod_array ht h
  have hx' : l = xs.map (·.1) := by
    have := congrArg Prod.fst hx
    simpa using this
  have hi2 := hel i (by omega)
  rw [h1, Nat.mul_one, List.getElem?_eq_getElem (by omega)] at hi2
  obtain ⟨s, hz, hxs, _⟩ := DataW.trod_string he hi2
  refine ⟨s, ?_, ?_⟩
  · have := congrArg (fun l : List Value => l[0]?) hz
    simpa [List.getElem?_take, List.getElem?_drop] using this
  · rw [hx', List.getElem?_map, List.getElem?_eq_getElem (show i < xs.length by omega), hxs] at hb
    simpa using hb
set_option maxRecDepth 100000 in
theorem globE5_of_laid {W : World} (h : laidMetH Tryz.prog laid5 W) : GlobE W (fun k => W.heap.size ≤ k) ∧ W.cell? ⟨1, 5, none⟩ = some (.string secondB) := by
  rw [MakeChecks.laidMetH_plain _ _ _ (by kernel_rfl)] at h
  obtain ⟨ps, ⟨g0, t0, cs0, f0, p0, q0, hg0, ht0, hv0, hd0, ⟨g1, t1, cs1, f1, p1, q1, hg1, ht1, hv1, hd1, ⟨g2, t2, cs2, f2, p2, q2, hg2, ht2, hv2, hd2, ⟨g3, t3, cs3, f3, p3, q3, hg3, ht3, hv3, hd3, ⟨g4, t4, cs4, f4, p4, q4, hg4, ht4, hv4, hd4, _, _⟩, _⟩, _⟩, _⟩, _⟩, _, _⟩ := h
  obtain rfl : g0 = 4 := Option.some.inj (hg0.symm.trans (by kernel_rfl))
  obtain rfl : g1 = 3 := Option.some.inj (hg1.symm.trans (by kernel_rfl))
  obtain rfl : g2 = 2 := Option.some.inj (hg2.symm.trans (by kernel_rfl))
  obtain rfl : g3 = 0 := Option.some.inj (hg3.symm.trans (by kernel_rfl))
  obtain rfl : g4 = 1 := Option.some.inj (hg4.symm.trans (by kernel_rfl))
  obtain rfl : t0 = 173 := Option.some.inj (ht0.symm.trans (by kernel_rfl))
  obtain rfl : t1 = 173 := Option.some.inj (ht1.symm.trans (by kernel_rfl))
  obtain rfl : t2 = 25 := Option.some.inj (ht2.symm.trans (by kernel_rfl))
  obtain rfl : t3 = 25 := Option.some.inj (ht3.symm.trans (by kernel_rfl))
  obtain rfl : t4 = 130 := Option.some.inj (ht4.symm.trans (by kernel_rfl))
  have z0 := laid_two Tryz.underlying173 rfl rfl rfl rfl Tryz.underlying3 (by kernel_rfl) (by kernel_rfl) hd0
  have z1 := laid_two Tryz.underlying173 rfl rfl rfl rfl Tryz.underlying3 (by kernel_rfl) (by kernel_rfl) hd1
  have z2 := laid_array (l := [4, 5, 6, 7, 8, 9, 10, 11, 12]) Tryz.underlying25 Tryz.underlying3 (by kernel_rfl) (by kernel_rfl) rfl hd2
  have z3 := laid_array (l := [4, 5, 6, 7, 8, 9, 10, 11, 12]) Tryz.underlying25 Tryz.underlying3 (by kernel_rfl) (by kernel_rfl) rfl hd3
  have b0 := var_blk hg0 hv0
  have b1 := var_blk hg1 hv1
  have b2 := var_blk hg2 hv2
  have b3 := var_blk hg3 hv3
  have c4 := var_cell hg4 hv4 5
  obtain ⟨s, hs1, hs2⟩ := laid_str Tryz.underlying130 Tryz.underlying9 (by kernel_rfl) hd4 5 (by omega) (b := [115, 101, 99, 111, 110, 100]) rfl
  have hs3 : s = secondB := by
    obtain ⟨dt⟩ := s
    have hs2 : dt.toList = [115, 101, 99, 111, 110, 100] := hs2
    have : dt = #[115, 101, 99, 111, 110, 100] := by rw [← Array.toList_inj]; exact hs2
    rw [this]; rfl
  refine ⟨?_, by rw [c4, hs1, hs3]⟩
  exact ⟨⟨by omega, by rw [b2.1, z2], by rw [b1.1, z1], by rw [b0.1, z0]⟩, b3.2, by rw [b3.1, z3]; rfl, by omega, by omega, by omega, by omega⟩
end Go.Proofs.YtgobdndjemicjaaGreatDoor
namespace Go.Proofs.YtgobdndjemicjaaGreatDoor
open Go Go.RowKit Go.ChangeShapes Go.WideShapes Go.ChangeAt

/-- The heap that the program's own run leaves meets the condition. -/
theorem door_metTurnKeeps (os : Os) (args : Array Value) : laidMetH Tryz.prog laid5 ((World.doorLaid Tryz.prog 400 os).forCall (fun _ _ => 0) ⟨#[], args, []⟩).memory :=
  laidMetH_of_parts3 (fuel := 8) (laidMet_of_run' 8 (by kernel_rfl) (by kernel_rfl)) (by kernel_rfl) (by kernel_rfl)

/-- The empty state. -/
def emptyStTurnKeeps : Value := .agg ((List.replicate 12 (Value.slice none 0 0) ++ List.replicate 25 (Value.int .i64 0)).toArray)

set_option maxRecDepth 100000 in
theorem turnKeeps_lifted (os : Os) (started : os.Started) (H : Type) (enc : TypeId × Value → H) :
    ReturnsInHanded {} Tryz.checked os 4 .any (fun w args => (Rows.turnKeepsSpec.pre enc Tryz.prog Tryz.f4 [] false w args ∧ laidMetH Tryz.prog laid5 w) ∧ sizedMet enc Tryz.prog Tryz.f4 (OpenSpec.ofChange Rows.turnKeepsSpec) false w args)
      (Rows.turnKeepsSpec.post enc Tryz.prog Tryz.f4 false true false false) := by
  refine returnsInHanded_of_change_and (C := Tryz.checked) (X := fun w _ => laidMetH Tryz.prog laid5 w) (fun _ _ _ hh h => h.of_heap hh) own_Tryz started (by kernel_rfl) Tryz.func4
    (ChangeSpec.witness_shaped (enc := enc) (C := Tryz.checked) (os := os) (X := fun w _ => laidMetH Tryz.prog laid5 w) false (World.doorLaid Tryz.prog 400 os) #[emptyStTurnKeeps, .slice none 0 0, .int .i64 0] 8 rfl (World.shaped_of_RefB (by kernel_rfl) (by kernel_rfl)) (by kernel_rfl) (by kernel_rfl) (by kernel_rfl) (door_metTurnKeeps os _)) ?_
  intro W base args ds gs before hval0 hW _ _ hL _
  have hval : ∀ (j : Nat) t v, Tryz.f4.params[j]? = some t → args[j]? = some v → Value.okWide Tryz.prog W .any base t v := hval0
  have hW' := hW
  obtain ⟨p, q, hA0, hV, rfl, _, _⟩ := hW
  have hA : DataW.TrodAll enc Tryz.prog W 0 (fun _ => true) true Tryz.f4.params.toList args.toList ds p := hA0
  rw [Tryz.params4] at hA hval
  obtain ⟨v0, v1, v2, d0, d1, d2, p0, p1, p2, rfl, rfl, rfl, h0, h1, h2⟩ := trodAll_three hA
  obtain ⟨rfl, rfl⟩ := trodVars_none hV
  obtain ⟨V0, S0, rfl, R0⟩ := open_State (hval 0 29 v0 rfl rfl) h0
  obtain ⟨s1, l1, rfl, A1, B1⟩ := open_Ints (hval 1 23 v1 rfl rfl) h1
  obtain ⟨n2, rfl, _⟩ := open_int Tryz.underlying3 (hval 2 3 v2 rfl rfl) h2
  refine (keeps25_law S0 V0 W R0 (globE5_of_laid hL).1 (fun W' g => alive25_any W' ((globE5_of_laid hL).1.kept (g.kept _) (fun _ hk => Or.inr (Nat.le_trans g.below.size hk))) (cell_grow25 g (globE5_of_laid hL).2)) s1 l1 A1 B1 n2).mono fun e W' ⟨he, hg⟩ => ?_
  subst he
  exact ⟨_, rfl, law_post laidOut_Tryz hW' rfl (by kernel_rfl) Tryz.underlying4 (by kernel_rfl) rfl rfl rfl hg.below⟩

theorem turnKeeps_plain : Rows.TurnKeepsSaid :=
  OpenClaim.holds_of_wide 4 Tryz.f4 rfl rfl rfl rfl rfl rfl rfl ⟨rfl, rfl, rfl, rfl, rfl⟩ rfl rfl rfl rfl rfl (by kernel_rfl) Tryz.func4 (by kernel_rfl)
    (of_decide_eq_true (by kernel_rfl)) (by unfold Func.isWrapper; first | (rw [if_pos (by decide +kernel)]; kernel_rfl) | (rw [if_neg (by decide +kernel)]; exact ⟨rfl, rfl⟩))
    (fun os started H enc _ => turnKeeps_lifted os started H enc)
end Go.Proofs.YtgobdndjemicjaaGreatDoor
namespace Go.Proofs.YtgobdndjemicjaaGreatDoor
open Go

theorem turnKeeps_holds : Rows.TurnKeepsCardSaid :=
  Claim7.holds_tied_plain_at .later [] [.data, .data, .widerDeep, .data, .data] true (true, "7ee5918bc5168af762b4280bf422be672ee7d56b6d83da876fb0fe5d82d8e72c") true
    turnKeeps_plain (fun _ h => by cases h) (by kernel_rfl) (fun _ h => by cases h) turnKeeps_row_tie rfl ⟨rfl, rfl⟩ (by kernel_rfl) rfl
    (fun f fn hf hfn => by
      obtain rfl : f = 4 := Option.some.inj (hf.symm.trans (by kernel_rfl))
      obtain rfl : fn = Tryz.f4 := (Option.some.inj (Tryz.func4.symm.trans hfn)).symm
      exact ⟨by kernel_rfl, fun j t ht => by
        rw [Tryz.params4] at ht
        have hm : t ∈ [29, 23, 3] := by simpa using Array.mem_of_getElem? ht
        have hall : ([29, 23, 3].all fun u => !Tryz.prog.wantsStandIn u) = true := by kernel_rfl
        exact (show Tryz.prog.wantsStandIn t = false by simpa using List.all_eq_true.1 hall t hm)⟩)
    (by kernel_rfl)
end Go.Proofs.YtgobdndjemicjaaGreatDoor
