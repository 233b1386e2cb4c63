/-
  Arguments that are slices: of ints, of acts.
-/
import Derived.Test.YtnjclibennadcaaGreatDoorMLawS
namespace Go.Proofs.YtnjclibennadcaaGreatDoor
open Go Go.RowKit Go.ChangeShapes Go.WideShapes Go.ChangeAt

theorem slice_val {P : Program} {W : World} {r : Reach} {b0 : Nat} {t e : TypeId} {v : Value} (hu : P.underlying t = some (.slice e)) (h : Value.okWide P W r b0 t v) : v = (slOf v).val ∧ (slOf v).n ≤ (slOf v).c := by
  unfold Value.okWide at h
  rw [hu] at h
  exact cell_slice hu h
theorem cells_sl (s : Sl) : s.val.cells.toList = [s.val] := by cases s <;> rfl
theorem trod_cells {H : Type} {enc : TypeId × Value → H} {P : Program} {W : World} {sp : Nat → Bool} {held : Bool} {fuel : Nat} {t e : TypeId} {s : Sl} {x : DataW H × List MemPlace} (hu : P.underlying t = some (.slice e)) (h : DataW.trod enc P W 0 sp held fuel t [s.val] = some x) : s.n ≤ 9223372036854775807 := by
  rcases DataW.trod_slice hu h with ⟨h1, _⟩ | ⟨a, n, c, el, _, m, _, h1, _, _, hnc, hm, _⟩
  · rw [val_nil (List.cons.inj h1).1]; exact Nat.zero_le _
  · obtain ⟨rfl, ha⟩ := val_slice (List.cons.inj h1).1
    unfold maxLen at hm
    show n ≤ _
    omega
/-- A slice that came in. -/
theorem open_sl {H : Type} {enc : TypeId × Value → H} {P : Program} {W : World} {r : Reach} {b0 : Nat} {sp : Nat → Bool} {t e : TypeId} {v : Value} {d : DataW H} {p : List MemPlace} (hu : P.underlying t = some (.slice e)) (hv : Value.okWide P W r b0 t v)
    (h : DataW.Trod enc P W 0 sp true t v d p) : ∃ (s : Sl) (fuel : Nat), v = s.val ∧ s.n ≤ s.c ∧ DataW.trod enc P W 0 sp true fuel t [s.val] = some (d, p) ∧ s.n ≤ 9223372036854775807 := by
  obtain ⟨h1, h2⟩ := slice_val hu hv
  obtain ⟨fuel, h⟩ := h
  rw [h1, cells_sl] at h
  exact ⟨slOf v, fuel, h1, h2, h, trod_cells hu h⟩
set_option maxRecDepth 100000 in
theorem open_Ints {H : Type} {enc : TypeId × Value → H} {W : World} {r : Reach} {b0 : Nat} {sp : Nat → Bool} {v : Value} {d : DataW H} {p : List MemPlace} (hv : Value.okWide Tryz.prog W r b0 23 v)
    (h : DataW.Trod enc Tryz.prog W 0 sp true 23 v d p) : ∃ (s : Sl) (l : List Int), v = s.val ∧ Ints W s l ∧ s.n ≤ 9223372036854775807 := by
  obtain ⟨s, fuel, h1, h2, h3, h4⟩ := open_sl Tryz.underlying23 hv h
  exact ⟨s, _, h1, trod_ints h2 h3, h4⟩
theorem trod_acts {H : Type} {enc : TypeId × Value → H} {W : World} {sp : Nat → Bool} {fuel : Nat} {s : Sl} {x : DataW H × List MemPlace} (hc : s.n ≤ s.c) (h : DataW.trod enc Tryz.prog W 0 sp true fuel 74 [s.val] = some x) :
    Rows' W s 4 ((List.range s.n).map fun i => (List.range 4).map fun j => numAt W s.b (s.o + i * 4 + j)) := by
  refine rows_of hc fun i j hi hj => ?_
  rcases DataW.trod_slice Tryz.underlying74 h with ⟨h1, _⟩ | ⟨a, n, c, el, _, m, _, h1, _, _, _, _, hlen, hel, _⟩
  · rw [val_nil (List.cons.inj h1).1] at hi; cases hi
  · obtain ⟨rfl, ha⟩ := val_slice (List.cons.inj h1).1
    have hi' : i < n := hi
    have he := hel i hi'
    have c4 : Tryz.prog.cellsOf 77 = 4 := by kernel_rfl
    have c1 : Tryz.prog.cellsOf 3 = 1 := by kernel_rfl
    rw [c4, List.getElem?_eq_getElem (by omega), Option.bind_eq_some_iff] at he
    obtain ⟨cs, hcs, ht⟩ := he
    obtain ⟨_, hl, hat⟩ := World.cells?_some hcs
    obtain ⟨xs, m', _, _, _, hxl, hx⟩ := DataW.trod_struct Tryz.underlying77 ht
    have hxl4 : xs.length = 4 := hxl
    have key : ∃ z, List.take 1 (List.drop j cs) = [I z] := by
      have g0 : DataW.trod enc Tryz.prog W 0 sp true m' 3 (List.take (Tryz.prog.cellsOf 3) (List.drop 0 cs)) = xs[0]? := hx 0 _ rfl
      have g1 : DataW.trod enc Tryz.prog W 0 sp true m' 3 (List.take (Tryz.prog.cellsOf 3) (List.drop 1 cs)) = xs[1]? := hx 1 _ rfl
      have g2 : DataW.trod enc Tryz.prog W 0 sp true m' 3 (List.take (Tryz.prog.cellsOf 3) (List.drop 2 cs)) = xs[2]? := hx 2 _ rfl
      have g3 : DataW.trod enc Tryz.prog W 0 sp true m' 3 (List.take (Tryz.prog.cellsOf 3) (List.drop 3 cs)) = xs[3]? := hx 3 _ rfl
      rw [c1, List.getElem?_eq_getElem (by omega)] at g0 g1 g2 g3
      have : j = 0 ∨ j = 1 ∨ j = 2 ∨ j = 3 := by omega
      rcases this with rfl | rfl | rfl | rfl
      · obtain ⟨z, hz, _⟩ := DataW.trod_int Tryz.underlying3 g0; exact ⟨z, hz⟩
      · obtain ⟨z, hz, _⟩ := DataW.trod_int Tryz.underlying3 g1; exact ⟨z, hz⟩
      · obtain ⟨z, hz, _⟩ := DataW.trod_int Tryz.underlying3 g2; exact ⟨z, hz⟩
      · obtain ⟨z, hz, _⟩ := DataW.trod_int Tryz.underlying3 g3; exact ⟨z, hz⟩
    obtain ⟨z, hz⟩ := key
    refine ⟨z, ?_⟩
    have h2 := hat j hj
    have h3 : cs[j]? = some (I z) := by
      have := congrArg (fun l : List Value => l[0]?) hz
      simpa [List.getElem?_take, List.getElem?_drop] using this
    rw [ha, h3] at h2
    rw [add_none, add_none] at h2
    exact h2
set_option maxRecDepth 100000 in
theorem open_Acts {H : Type} {enc : TypeId × Value → H} {W : World} {r : Reach} {b0 : Nat} {sp : Nat → Bool} {v : Value} {d : DataW H} {p : List MemPlace} (hv : Value.okWide Tryz.prog W r b0 74 v)
    (h : DataW.Trod enc Tryz.prog W 0 sp true 74 v d p) : ∃ (s : Sl) (l : List (List Int)), v = s.val ∧ Rows' W s 4 l ∧ s.n ≤ 9223372036854775807 := by
  obtain ⟨s, fuel, h1, h2, h3, h4⟩ := open_sl Tryz.underlying74 hv h
  exact ⟨s, _, h1, trod_acts h2 h3, h4⟩
end Go.Proofs.YtnjclibennadcaaGreatDoor
