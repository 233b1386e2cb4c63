/-
  The walk of state.Copy again: what it hands back lies in new memory.
  A block that begins with a state: reading it and writing it.
-/
import Derived.Test.YtibmnofpoenonaaGreatDoorOwn
import Derived.Test.YtibmnofpoenonaaGreatDoorHost
import Derived.Test.YtibmnofpoenonaaGreatDoorBound
namespace Go.Proofs.YtibmnofpoenonaaGreatDoor
open Go Go.RowKit Go.Shelf

theorem cloned_objs (w : World) (s : Sl) (l : List (List Int)) (R : Rows' w s 18 l) (hb : l.length ≤ 1048576) :
    Calls Tryz.prog 49 #[s.val] w fun e w' => ∃ s' : Sl, e = .returned s'.val ∧ Own w' s' 49 18 w.heap.size (flat l) ∧ s'.isNil = s.isNil ∧ Grow w w' := by
  cases s with
  | nil =>
    have hl : l = [] := List.eq_nil_of_length_eq_zero R.len.symm
    subst hl
    refine (AnyE.slices_Clone_nil Tryz.cloneObjs 0 0 w).mono ?_
    rintro e w' ⟨rfl, rfl⟩
    exact ⟨.nil, rfl, ⟨⟨by simp [Sl.n, flat], Nat.le_refl _, fun j u hu => by simp [flat] at hu⟩, Nat.zero_le _, rfl, fun b h => h.elim⟩, rfl, Grow.refl _⟩
  | mk b o n c =>
    have hn : n = l.length := R.len
    subst hn
    obtain ⟨f1, _⟩ := flat_at 18 l R.wid
    refine (AnyE.slices_Clone Tryz.cloneObjs Tryz.t49 (.agg (cellsOf (List.replicate 18 0))) 18 144 (by kernel_rfl) (by kernel_rfl) (by kernel_rfl) (by kernel_rfl) rfl (by omega) (fun w => by kernel_rfl) b o l.length c (flat l) w (by rw [flat, List.length_map, f1]) (by unfold maxLen; omega) (by omega) (fun j u hu => R.cells.cell j u hu) (flat_oneCell l)).mono ?_
    rintro e w' ⟨v', rfl, hown, hne, hb⟩
    obtain ⟨s', rfl, hI, _⟩ := own_of_row hown
    refine ⟨s', rfl, hI, ?_, Grow.of_below hb⟩
    cases s' with
    | nil => exact absurd rfl hne
    | mk => rfl
theorem cloned_events (w : World) (s : Sl) (l : List (List Int)) (R : Rows' w s 6 l) (hb : l.length ≤ 1048576) :
    Calls Tryz.prog 68 #[s.val] w fun e w' => ∃ s' : Sl, e = .returned s'.val ∧ Own w' s' 84 6 w.heap.size (flat l) ∧ s'.isNil = s.isNil ∧ Grow w w' := by
  cases s with
  | nil =>
    have hl : l = [] := List.eq_nil_of_length_eq_zero R.len.symm
    subst hl
    refine (AnyE.slices_Clone_nil Tryz.cloneEvents 0 0 w).mono ?_
    rintro e w' ⟨rfl, rfl⟩
    exact ⟨.nil, rfl, ⟨⟨by simp [Sl.n, flat], Nat.le_refl _, fun j u hu => by simp [flat] at hu⟩, Nat.zero_le _, rfl, fun b h => h.elim⟩, rfl, Grow.refl _⟩
  | mk b o n c =>
    have hn : n = l.length := R.len
    subst hn
    obtain ⟨f1, _⟩ := flat_at 6 l R.wid
    refine (AnyE.slices_Clone Tryz.cloneEvents Tryz.t84 (.agg (cellsOf (List.replicate 6 0))) 6 48 (by kernel_rfl) (by kernel_rfl) (by kernel_rfl) (by kernel_rfl) rfl (by omega) (fun w => by kernel_rfl) b o l.length c (flat l) w (by rw [flat, List.length_map, f1]) (by unfold maxLen; omega) (by omega) (fun j u hu => R.cells.cell j u hu) (flat_oneCell l)).mono ?_
    rintro e w' ⟨v', rfl, hown, hne, hb⟩
    obtain ⟨s', rfl, hI, _⟩ := own_of_row hown
    refine ⟨s', rfl, hI, ?_, Grow.of_below hb⟩
    cases s' with
    | nil => exact absurd rfl hne
    | mk => rfl

theorem Own.ints {w : World} {s : Sl} {e : TypeId} {base : Nat} {l : List Int} (h : Own w s e 1 base (l.map I)) : Ints w s l := h.cells.ints
theorem Own.rows {w : World} {s : Sl} {e : TypeId} {k base : Nat} {l : List (List Int)} (h : Own w s e k base (flat l)) (hk : 0 < k) (hw : ∀ i, i < l.length → (rowAt l i).length = k) : Rows' w s k l := h.cells.rows hk hw
/-- A block in which one of the state's slices lies. -/
def SV.uses (V : SV) (b : Nat) : Prop := V.objs.owns b ∨ ∃ z, z < 11 ∧ (V.list z).owns b
theorem owns_b {s : Sl} {b : Nat} (h : s.owns b) : b = s.b := by
  cases s with
  | nil => exact h.elim
  | mk => exact h
theorem owns_of {w : World} {s : Sl} {l : List Int} (h : Ints w s l) (hl : 0 < l.length) : s.owns s.b := by
  cases s with
  | nil => have := h.len; simp [Sl.n] at this; omega
  | mk => rfl
theorem owns_ofR {w : World} {s : Sl} {k : Nat} {l : List (List Int)} (h : Rows' w s k l) (hl : 0 < l.length) : s.owns s.b := by
  cases s with
  | nil => have := h.len; simp [Sl.n] at this; omega
  | mk => rfl
theorem Off.kept {b : Nat} {W W' : World} (h : Off b W W') (ho : W'.os = W.os) (ht : W'.tape = W.tape) (hp : W'.output = W.output) : Kept (fun k => k = b) W W' :=
  ⟨ho, ht, hp, by rw [h.size]; exact Nat.le_refl _, fun k _ hk => h.block k hk⟩
theorem Own.apart {w w' : World} {s : Sl} {e : TypeId} {k base : Nat} {xs : List Value} {b : Nat} (h : Own w s e k base xs) (g : Off b w w') (hn : ∀ b', s.owns b' → b' ≠ b) : Own w' s e k base xs := by
  refine ⟨⟨h.cells.len, h.cells.cap, fun j u hu => ?_⟩, h.max, h.off, fun b' hb => ?_⟩
  · have h1 := h.cells.cell j u hu
    cases s with
    | nil =>
      have := h.cells.len
      simp [Sl.n] at this
      subst this
      simp at hu
    | mk b' o n c =>
      rw [World.cell?_of_block (g.block b' (hn b' rfl))]; exact h1
  · obtain ⟨h1, cur, e1, e2⟩ := h.blk b' hb
    exact ⟨h1, cur, by rw [g.block b' (hn b' hb)]; exact e1, e2⟩

set_option maxRecDepth 100000 in
set_option maxHeartbeats 2000000 in
theorem copied_any (S : St) (V : SV) (w : World) (R : RepSt w V S) (hS : Small S) :
    Calls Tryz.prog 28 #[.agg (stA V S.num)] w fun e w' => ∃ V', e = .returned (.agg (stA V' S.num)) ∧ RepSt w' V' S ∧ (∀ b, V'.uses b → w.heap.size ≤ b ∧ b < w'.heap.size) ∧ Grow w w' := by
  go_enter Tryz.func28, Tryz.ntmps28
  go_wp2_with fail
  go_at_call 49
  refine (cloned_objs _ V.objs S.objs (R.objs.grow (by repeat (first | exact Grow.refl _ | refine Grow.andr ?_ | refine Grow.plus ?_ _ | refine Grow.alloc ?_ _ | refine Grow.drew ?_ | refine Grow.drewN ?_ _))) hS.objs).mono ?_
  rintro e w' ⟨so, rfl, hO, _, nx, rfl⟩
  have hOb : ∀ b, so.owns b → w.heap.size + 2 ≤ b := fun b h => by
    have h1 := (hO.lt b h).1
    simpa [alloc_size'] using h1
  go_wp2_with fail
  have hO2 : Own (((w.alloc (.cells (stA { V with objs := so } S.num) 29)).alloc (.cells (stA SV.zero fun _ => 0) 29)).plus nx) so _ 18 _ (flat S.objs) :=
    hO.apart (b := w.heap.size) (by repeat (first | exact Off.base _ _ _ _ rfl | refine Off.plus ?_ _ | refine Off.alloc ?_ _)) (fun b h => by have := hOb b h; omega)
  go_loopw [3, 8] (fun _ i wr => ∃ (k : Nat) (V' : SV) (x : Ext), k ≤ 11 ∧ i = .int .i64 k ∧ wr = ((w.alloc (.cells (stA V' S.num) 29)).alloc (.cells (stA SV.zero fun _ => 0) 29)).plus x ∧
    Own wr V'.objs 49 18 (w.heap.size + 2) (flat S.objs) ∧ (∀ z, z < k → Own wr (V'.list z) 3 1 (w.heap.size + 2) ((S.list z).map I)) ∧ (∀ z, k ≤ z → V'.list z = V.list z)) (fun _ i _ => 11 - (intOf i).toNat)
  case atStart => exact ⟨0, _, nx, by omega, rfl, rfl, hO2.mono (by rw [alloc_size', alloc_size']; exact Nat.le_refl _), fun z hz => by omega, fun z _ => rfl⟩
  case round =>
    obtain ⟨k, V', x, hk, rfl, rfl, hO3, hL3, hV3⟩ := hrel
    have HO3 := Lib.hid hO3
    have HL3 := Lib.hid hL3
    have HV3 := Lib.hid hV3
    clear hO hO2 hO3 hL3 hV3
    by_cases hlt : k < 11
    · have hVk := HV3.out k (Nat.le_refl _)
      go_wp2_with fail
      go_at_call 29
      refine (cloned_ints _ (V.list k) (S.list k) ((R.list k hlt).grow (by repeat (first | exact Grow.refl _ | refine Grow.andr ?_ | refine Grow.plus ?_ _ | refine Grow.alloc ?_ _ | refine Grow.drew ?_ | refine Grow.drewN ?_ _))) (hS.list k hlt)).mono ?_
      rintro e w' ⟨sk, rfl, hI, _, ny, rfl⟩
      rw [plus_plus] at hI
      have HI := Lib.hid (hI.mono (base' := w.heap.size + 2) (by rw [plus_size, alloc_size', alloc_size']; omega))
      clear hI
      go_wp2_with fail
      refine ⟨⟨k + 1, _, _, by omega, by go_num, rfl, ?_, ?_, ?_⟩, by simp [intOf]; omega⟩
      · rw [← plus_plus]
        exact (HO3.out.apart (b := w.heap.size) (by repeat (first | exact Off.base _ _ _ _ rfl | refine Off.plus ?_ _ | refine Off.alloc ?_ _)) (fun b h => by have := (HO3.out.lt b h).1; omega)).grow ⟨ny, rfl⟩
      · intro z hz
        by_cases e : z = k
        · subst e
          simp only [upd_same]
          exact HI.out.apart (b := w.heap.size) (by repeat (first | exact Off.base _ _ _ _ rfl | refine Off.plus ?_ _ | refine Off.alloc ?_ _)) (fun b h => by have := (HI.out.lt b h).1; omega)
        · simp only [upd_ne _ _ _ _ e]
          have h1 := HL3.out z (by omega)
          rw [← plus_plus]
          exact (h1.apart (b := w.heap.size) (by repeat (first | exact Off.base _ _ _ _ rfl | refine Off.plus ?_ _ | refine Off.alloc ?_ _)) (fun b h => by have := (h1.lt b h).1; omega)).grow ⟨ny, rfl⟩
      · intro z hz
        show upd V'.list k sk z = V.list z
        rw [upd_ne _ _ _ _ (by omega), HV3.out z (by omega)]
    · go_wp2_with fail
      refine bodyPost_ret (results_S rfl _ _ (w.heap.size + 1) rfl ?_) rfl ?_
      · go_simp
      · have hO4 := HO3.out.apart (b := w.heap.size + 1) (w' := ((w.alloc (.cells (stA V' S.num) 29)).alloc (.cells (stA V' S.num) 29)).plus x) (by repeat (first | exact Off.base _ _ _ _ (alloc_size' _ _).symm | refine Off.plus ?_ _ | refine Off.alloc ?_ _)) (fun b h => by have := (HO3.out.lt b h).1; omega)
        have hL4 := fun z (hz : z < 11) => (HL3.out z (by omega)).apart (b := w.heap.size + 1) (w' := ((w.alloc (.cells (stA V' S.num) 29)).alloc (.cells (stA V' S.num) 29)).plus x) (by repeat (first | exact Off.base _ _ _ _ (alloc_size' _ _).symm | refine Off.plus ?_ _ | refine Off.alloc ?_ _)) (fun b h => by have := ((HL3.out z (by omega)).lt b h).1; omega)
        refine ⟨V', by go_simp, ⟨hO4.rows (by omega) R.objs.wid, fun z hz => (hL4 z hz).ints⟩, ?_, (by repeat (first | exact Grow.refl _ | refine Grow.andr ?_ | refine Grow.plus ?_ _ | refine Grow.alloc ?_ _ | refine Grow.drew ?_ | refine Grow.drewN ?_ _))⟩
        rintro b (h | ⟨z, hz, h⟩)
        · have := hO4.lt b h; exact ⟨by omega, this.2⟩
        · have := (hL4 z hz).lt b h; exact ⟨by omega, this.2⟩
end Go.Proofs.YtibmnofpoenonaaGreatDoor
namespace Go.Proofs.YtibmnofpoenonaaGreatDoor
open Go Go.RowKit

theorem free_cells {w : World} {b : Nat} (hf : w.free b = true) : ∃ c t, w.heap[b]? = some (.cells c t (0, 0)) := by
  unfold World.free at hf
  cases ho : w.heap[b]? with
  | none => rw [ho] at hf; cases hf
  | some o =>
    rw [ho] at hf
    cases o <;> try (cases hf; done)
    rename_i c t f
    have : f = (0, 0) := by simpa using hf
    subst this
    exact ⟨c, t, rfl⟩
theorem free_lt {w : World} {b : Nat} (hf : w.free b = true) : b < w.heap.size := by
  obtain ⟨c, t, h⟩ := free_cells hf
  exact (Array.getElem?_eq_some_iff.1 h).1
theorem free_blk {w : World} {b : Nat} (hf : w.free b = true) : ∃ t, w.heap[b]? = some (.cells (w.blk b) t (0, 0)) := by
  obtain ⟨c, t, h⟩ := free_cells hf
  exact ⟨t, by rw [h]; simp [World.blk, h]⟩
@[go_sem] theorem cell_setRow (w : World) (b k i : Nat) (cs : Array Value) (hf : w.free b = true) : (w.setRow b cs).cell? ⟨k, i, none⟩ = if k = b then cs[i]? else w.cell? ⟨k, i, none⟩ := by
  obtain ⟨c, t, h⟩ := free_cells hf
  split
  · rename_i e; subst e
    simp [World.cell?, World.setRow, Array.getElem?_modify, h]
  · rename_i e
    simp only [World.cell?, World.setRow, Array.getElem?_modify, if_neg (Ne.symm e)]
@[go_sem] theorem frozen_setRow (w : World) (b k i : Nat) (cs : Array Value) (hf : w.free b = true) : (w.setRow b cs).frozen? ⟨k, i, none⟩ = w.frozen? ⟨k, i, none⟩ := by
  obtain ⟨c, t, h⟩ := free_cells hf
  by_cases e : b = k
  · subst e
    simp [World.frozen?, World.setRow, Array.getElem?_modify, h]
  · simp only [World.frozen?, World.setRow, Array.getElem?_modify, if_neg e]
@[go_sem] theorem blk_setRow (w : World) (b k : Nat) (cs : Array Value) (hf : w.free b = true) : (w.setRow b cs).blk k = if k = b then cs else w.blk k := by
  obtain ⟨c, t, h⟩ := free_cells hf
  split
  · rename_i e; subst e
    simp [World.blk, World.setRow, Array.getElem?_modify, h]
  · rename_i e
    simp only [World.blk, World.setRow, Array.getElem?_modify, if_neg (Ne.symm e)]
theorem setCell_row (w : World) (b i : Nat) (v : Value) (hf : w.free b = true) : w.setCell ⟨b, i, none⟩ v = w.setRow b ((w.blk b).setIfInBounds i v) := by
  obtain ⟨c, t, h⟩ := free_cells hf
  have hb : w.blk b = c := by simp [World.blk, h]
  rw [hb]
  unfold World.setCell World.setRow
  congr 1
  apply Array.ext_getElem?
  intro k
  simp only [Array.getElem?_modify]
  by_cases e : b = k
  · subst e; simp [h]
  · simp [e]
theorem setRow_setRow_same (w : World) (b : Nat) (cs ds : Array Value) (hf : w.free b = true) : (w.setRow b cs).setRow b ds = w.setRow b ds := by
  obtain ⟨c, t, h⟩ := free_cells hf
  unfold World.setRow
  congr 1
  apply Array.ext_getElem?
  intro k
  simp only [Array.getElem?_modify]
  by_cases e : b = k
  · subst e; simp [h]
  · simp [e]
theorem setRow_setRow_other (w : World) (b k : Nat) (cs ds : Array Value) (hn : k ≠ b) : (w.setRow b cs).setRow k ds = (w.setRow k ds).setRow b cs := by
  unfold World.setRow
  congr 1
  apply Array.ext_getElem?
  intro j
  simp only [Array.getElem?_modify]
  by_cases e : b = j
  · subst e; simp [hn]
  · by_cases e2 : k = j
    · subst e2; simp [e]
    · simp [e, e2]
def setRow2 (w : World) (b : Nat) (cs : Array Value) (k : Nat) (ds : Array Value) : World := (w.setRow b cs).setRow k ds
@[go_sem] theorem setRow_setRow (w : World) (b k : Nat) (cs ds : Array Value) (hf : w.free b = true) : (w.setRow b cs).setRow k ds = if k = b then w.setRow b ds else setRow2 w b cs k ds := by
  split
  · rename_i e; subst e; exact setRow_setRow_same w k cs ds hf
  · rfl
def setCell2 (w : World) (b : Nat) (cs : Array Value) (k i : Nat) (v : Value) : World := (w.setRow b cs).setCell ⟨k, i, none⟩ v
@[go_sem] theorem setCell_setRow (w : World) (b k i : Nat) (cs : Array Value) (v : Value) (hf : w.free b = true) : (w.setRow b cs).setCell ⟨k, i, none⟩ v = if k = b then w.setRow b (cs.setIfInBounds i v) else setCell2 w b cs k i v := by
  split
  · rename_i e; subst e
    rw [setCell_row _ _ _ _ (by rw [free_setRow]; exact hf), blk_setRow _ _ _ _ hf, if_pos rfl, setRow_setRow_same _ _ _ _ hf]
  · rfl

/-- A block that begins with a state. -/
structure Host (w : World) (b : Nat) (V : SV) (S : St) (rest : Array Value) : Prop where
  blk : w.blk b = hoA V S.num rest
  free : w.free b = true
  rep : RepSt w V S
  apart : ¬ V.uses b
  in' : ∀ k, V.uses k → k < w.heap.size
theorem Host.lt {w : World} {b : Nat} {V : SV} {S : St} {rest : Array Value} (h : Host w b V S rest) : b < w.heap.size := free_lt h.free
theorem cell_of_blk {w : World} {b : Nat} {cs : Array Value} (hf : w.free b = true) (h : w.blk b = cs) (i : Nat) : w.cell? ⟨b, i, none⟩ = cs[i]? := by
  obtain ⟨t, e⟩ := free_blk hf
  subst h
  simp [World.cell?, e]
theorem frozen_of_free {w : World} {b : Nat} (hf : w.free b = true) (i : Nat) : w.frozen? ⟨b, i, none⟩ = false := by
  obtain ⟨c, t, e⟩ := free_cells hf
  simp [World.frozen?, e]
theorem setCell_of_blk {w : World} {b : Nat} {cs : Array Value} (hf : w.free b = true) (h : w.blk b = cs) (i : Nat) (v : Value) : w.setCell ⟨b, i, none⟩ v = w.setRow b (cs.setIfInBounds i v) := by
  rw [setCell_row w b i v hf, h]
/-- The world with one block written anew, and with more. -/
def Put (b : Nat) (cs : Array Value) (w w' : World) : Prop := ∃ x, w' = (w.setRow b cs).plus x
theorem Put.of_grow {b : Nat} {cs : Array Value} {w w' : World} (h : Grow (w.setRow b cs) w') : Put b cs w w' := h
theorem Put.kept {b : Nat} {cs : Array Value} {w w' : World} (h : Put b cs w w') : Kept (fun k => k = b) w w' := by
  obtain ⟨x, rfl⟩ := h
  exact (Kept.setRow (own := fun k => k = b) (Kept.refl _ _) b cs (fun _ => rfl)).plus x
theorem put_of_kept {b : Nat} {w w' : World} (h : Kept (fun k => k = b) w w') (hf : w.free b = true) (ht : ∀ c t, w.heap[b]? = some (.cells c t (0, 0)) → w'.heap[b]? = some (.cells (w'.blk b) t (0, 0))) : Put b (w'.blk b) w w' := by
  obtain ⟨c, t, e⟩ := free_cells hf
  have e' := ht c t e
  refine Grow.of_below ⟨h.os, h.tape, h.output, by rw [size_setRow]; exact h.size, fun k hk => ?_⟩
  rw [size_setRow] at hk
  simp only [World.setRow, Array.getElem?_modify]
  by_cases hkb : b = k
  · subst hkb; rw [e', e]; simp
  · rw [if_neg hkb, h.block k hk (Ne.symm hkb)]
theorem RepSt.kept {own : Nat → Prop} {w w' : World} {V : SV} {S : St} (h : RepSt w V S) (g : Kept own w w') (hn : ∀ k, V.uses k → ¬ own k) : RepSt w' V S :=
  ⟨h.objs.kept g (fun hl => hn _ (Or.inl (owns_ofR h.objs hl))), fun z hz => (h.list z hz).kept g (fun hl => hn _ (Or.inr ⟨z, hz, owns_of (h.list z hz) hl⟩))⟩
theorem Host.grow {w w' : World} {b : Nat} {V : SV} {S : St} {rest : Array Value} (h : Host w b V S rest) (g : Grow w w') : Host w' b V S rest := by
  have hl := h.lt
  refine ⟨by rw [blk_grow g hl, h.blk], ?_, h.rep.grow g, h.apart, fun k hk => Nat.lt_of_lt_of_le (h.in' k hk) g.size⟩
  rw [(g.kept (fun _ => False)).free b hl (fun h => h)]; exact h.free
end Go.Proofs.YtibmnofpoenonaaGreatDoor
