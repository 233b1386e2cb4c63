/-
  Clones of slices.
  The walk of state.Copy: a state apart.
-/
import Derived.Test.YtibmnofpoenonaaGreatDoorLay
import Derived.Test.YtibmnofpoenonaaGreatDoorSt
import Derived.Shelf.SlicesE.Clone
import Derived.Ground.SlgnProg
namespace Go.Proofs.YtibmnofpoenonaaGreatDoor
open Go Go.RowKit

/-- A row of the call's own, as a slice. -/
theorem own_slice {w : World} {base k : Nat} {e : TypeId} {v : Value} {n : Nat} {xs : List Value} (h : w.ownsRow base e k v n xs) :
    ∃ s : Sl, v = s.val ∧ s.n = n ∧ s.n ≤ s.c ∧ (∀ i, i < xs.length → w.cell? ⟨s.b, s.o + i, none⟩ = xs[i]?) ∧ (s.isNil = false → base ≤ s.b) := by
  obtain ⟨hl, ⟨rfl, rfl⟩ | ⟨g, cap, cur, rfl, hb, hg, hn, hm, hs, ht⟩⟩ := h
  · exact ⟨.nil, rfl, rfl, Nat.le_refl _, fun i hi => by rw [hl] at hi; simp at hi, fun h => by cases h⟩
  · refine ⟨.mk g 0 n cap, rfl, rfl, hn, fun i hi => ?_, fun _ => hb⟩
    have h1 : xs[i]? = cur[i]? := by
      rw [← ht, List.getElem?_take_of_lt (by omega), Array.getElem?_toList]
    simp only [Sl.b, Sl.o, Nat.zero_add]
    rw [h1]
    simp [World.cell?, hg]
theorem own_ints {w : World} {base : Nat} {e : TypeId} {v : Value} {l : List Int} (h : w.ownsRow base e 1 v l.length (l.map I)) : ∃ s : Sl, v = s.val ∧ Ints w s l ∧ (s.isNil = false → base ≤ s.b) := by
  obtain ⟨s, e1, e2, e3, e4, e5⟩ := own_slice h
  refine ⟨s, e1, ⟨e2, e3, fun i hi => ?_⟩, e5⟩
  rw [e4 i (by simpa using hi)]
  simp [gt, hi]
/-- Rows, one behind the other. -/
def flat (l : List (List Int)) : List Value := (l.flatten).map I
theorem flat_at (k : Nat) : ∀ (l : List (List Int)), (∀ i, i < l.length → (rowAt l i).length = k) → l.flatten.length = l.length * k ∧ ∀ i j, i < l.length → j < k → gt l.flatten (i * k + j) = gt (rowAt l i) j
  | [], _ => ⟨by simp, fun i j hi => by cases hi⟩
  | r :: l, h => by
    have h0 : r.length = k := h 0 (by simp)
    obtain ⟨h1, h2⟩ := flat_at k l (fun i hi => h (i + 1) (by simpa using hi))
    refine ⟨by rw [List.flatten_cons, List.length_append, h1, h0, List.length_cons, Nat.add_mul]; omega, fun i j hi hj => ?_⟩
    cases i with
    | zero =>
      rw [Nat.zero_mul, Nat.zero_add, List.flatten_cons]
      simp only [gt, List.getD, rowAt, List.getElem?_cons_zero, Option.getD_some]
      rw [List.getElem?_append_left (by omega)]
    | succ i =>
      have h3 := h2 i j (by simpa using hi) hj
      simp only [gt, List.getD, rowAt, List.getElem?_cons_succ, List.flatten_cons] at h3 ⊢
      rw [List.getElem?_append_right (by rw [h0, Nat.add_mul]; omega), ← h3, h0]
      congr 2
      rw [Nat.add_mul]; omega
theorem own_rows {w : World} {base k : Nat} {e : TypeId} {v : Value} {l : List (List Int)} (hk : ∀ i, i < l.length → (rowAt l i).length = k) (h : w.ownsRow base e k v l.length (flat l)) : ∃ s : Sl, v = s.val ∧ Rows' w s k l ∧ (s.isNil = false → base ≤ s.b) := by
  obtain ⟨s, e1, e2, e3, e4, e5⟩ := own_slice h
  obtain ⟨f1, f2⟩ := flat_at k l hk
  refine ⟨s, e1, ⟨e2, e3, hk, fun i j hi hj => ?_⟩, e5⟩
  have hij : i * k + j < l.length * k := by
    have : (i + 1) * k ≤ l.length * k := Nat.mul_le_mul_right _ hi
    rw [Nat.add_mul] at this; omega
  rw [Nat.add_assoc, e4 _ (by rw [flat, List.length_map, f1]; exact hij), ← f2 i j hi hj]
  have hfl : i * k + j < l.flatten.length := by rw [f1]; exact hij
  simp only [flat, List.getElem?_map, List.getElem?_eq_getElem hfl, Option.map_some, gt, List.getD, Option.getD_some]

section
variable (w : World)
theorem flat_one (l : List Int) : ∀ u ∈ l.map I, u.oneCell' = true := by
  intro u hu
  obtain ⟨x, _, rfl⟩ := List.mem_map.1 hu
  rfl
/-- A clone of whole numbers. -/
theorem clone_ints (s : Sl) (l : List Int) (R : Ints w s l) (hb : l.length ≤ 1048576) :
    Calls Tryz.prog 29 #[s.val] w fun e w' => ∃ s' : Sl, e = .returned s'.val ∧ Ints w' s' l ∧ (s'.isNil = false → w.heap.size ≤ s'.b) ∧ s'.isNil = s.isNil ∧ Grow w w' := by
  cases s with
  | nil =>
    have hl : l = [] := List.eq_nil_of_length_eq_zero R.len.symm
    subst hl
    refine (AnyE.slices_Clone_nil Tryz.cloneInts 0 0 w).mono ?_
    rintro e w' ⟨rfl, rfl⟩
    exact ⟨.nil, rfl, Ints.nil _, (fun h => by cases h), rfl, Grow.refl _⟩
  | mk b o n c =>
    have hn : n = l.length := R.len
    subst hn
    refine (AnyE.slices_Clone Tryz.cloneInts Tryz.t3 (.int .i64 0) 1 8 (by kernel_rfl) (by kernel_rfl) (by kernel_rfl) (by kernel_rfl) rfl (by omega) (fun w => by kernel_rfl) b o l.length c (l.map I) w (by simp) (by unfold maxLen; omega) (by omega) (fun j u hu => ?_) (flat_one l)).mono ?_
    · have hj : j < l.length := by
        have := (List.getElem?_eq_some_iff.1 hu).1
        simpa using this
      have := R.cell j hj
      simp only [Sl.b, Sl.o] at this
      rw [this, ← hu]
      simp [gt, hj]
    · rintro e w' ⟨v', rfl, hown, hne, hb⟩
      obtain ⟨s', rfl, hI, hf⟩ := own_ints hown
      refine ⟨s', rfl, hI, hf, ?_, Grow.of_below hb⟩
      cases s' with
      | nil => exact absurd rfl hne
      | mk => rfl
theorem flat_oneCell (l : List (List Int)) : ∀ u ∈ flat l, u.oneCell' = true := flat_one l.flatten
theorem clone_objs (s : Sl) (l : List (List Int)) (R : Rows' w s 18 l) (hb : l.length ≤ 1048576) :
    Calls Tryz.prog 49 #[s.val] w fun e w' => ∃ s' : Sl, e = .returned s'.val ∧ Rows' w' s' 18 l ∧ (s'.isNil = false → w.heap.size ≤ s'.b) ∧ s'.isNil = s.isNil ∧ Grow w w' := by
  cases s with
  | nil =>
    have hl : l = [] := List.eq_nil_of_length_eq_zero R.len.symm
    subst hl
    refine (AnyE.slices_Clone_nil Tryz.cloneObjs 0 0 w).mono ?_
    rintro e w' ⟨rfl, rfl⟩
    exact ⟨.nil, rfl, Rows'.nil _ _, (fun h => by cases h), rfl, Grow.refl _⟩
  | mk b o n c =>
    have hn : n = l.length := R.len
    subst hn
    obtain ⟨f1, f2⟩ := flat_at 18 l R.wid
    refine (AnyE.slices_Clone Tryz.cloneObjs Tryz.t49 (.agg (cellsOf (List.replicate 18 0))) 18 144 (by kernel_rfl) (by kernel_rfl) (by kernel_rfl) (by kernel_rfl) rfl (by omega) (fun w => by kernel_rfl) b o l.length c (flat l) w (by rw [flat, List.length_map, f1]) (by unfold maxLen; omega) (by omega) (fun j u hu => ?_) (flat_oneCell l)).mono ?_
    · have hj : j < l.length * 18 := by
        have := (List.getElem?_eq_some_iff.1 hu).1
        rw [flat, List.length_map, f1] at this; exact this
      have h1 := R.cell (j / 18) (j % 18) (by omega) (by omega)
      simp only [Sl.b, Sl.o] at h1
      rw [Nat.add_assoc, show j / 18 * 18 + j % 18 = j by omega] at h1
      rw [h1, ← hu, ← f2 _ _ (by omega) (by omega), show j / 18 * 18 + j % 18 = j by omega]
      have hfl : j < l.flatten.length := by rw [f1]; exact hj
      simp only [flat, List.getElem?_map, List.getElem?_eq_getElem hfl, Option.map_some, gt, List.getD, Option.getD_some]
    · rintro e w' ⟨v', rfl, hown, hne, hb⟩
      obtain ⟨s', rfl, hI, hf⟩ := own_rows R.wid hown
      refine ⟨s', rfl, hI, hf, ?_, Grow.of_below hb⟩
      cases s' with
      | nil => exact absurd rfl hne
      | mk => rfl
theorem clone_events (s : Sl) (l : List (List Int)) (R : Rows' w s 6 l) (hb : l.length ≤ 1048576) :
    Calls Tryz.prog 68 #[s.val] w fun e w' => ∃ s' : Sl, e = .returned s'.val ∧ Rows' w' s' 6 l ∧ (s'.isNil = false → w.heap.size ≤ s'.b) ∧ s'.isNil = s.isNil ∧ Grow w w' := by
  cases s with
  | nil =>
    have hl : l = [] := List.eq_nil_of_length_eq_zero R.len.symm
    subst hl
    refine (AnyE.slices_Clone_nil Tryz.cloneEvents 0 0 w).mono ?_
    rintro e w' ⟨rfl, rfl⟩
    exact ⟨.nil, rfl, Rows'.nil _ _, (fun h => by cases h), rfl, Grow.refl _⟩
  | mk b o n c =>
    have hn : n = l.length := R.len
    subst hn
    obtain ⟨f1, f2⟩ := flat_at 6 l R.wid
    refine (AnyE.slices_Clone Tryz.cloneEvents Tryz.t84 (.agg (cellsOf (List.replicate 6 0))) 6 48 (by kernel_rfl) (by kernel_rfl) (by kernel_rfl) (by kernel_rfl) rfl (by omega) (fun w => by kernel_rfl) b o l.length c (flat l) w (by rw [flat, List.length_map, f1]) (by unfold maxLen; omega) (by omega) (fun j u hu => ?_) (flat_oneCell l)).mono ?_
    · have hj : j < l.length * 6 := by
        have := (List.getElem?_eq_some_iff.1 hu).1
        rw [flat, List.length_map, f1] at this; exact this
      have h1 := R.cell (j / 6) (j % 6) (by omega) (by omega)
      simp only [Sl.b, Sl.o] at h1
      rw [Nat.add_assoc, show j / 6 * 6 + j % 6 = j by omega] at h1
      rw [h1, ← hu, ← f2 _ _ (by omega) (by omega), show j / 6 * 6 + j % 6 = j by omega]
      have hfl : j < l.flatten.length := by rw [f1]; exact hj
      simp only [flat, List.getElem?_map, List.getElem?_eq_getElem hfl, Option.map_some, gt, List.getD, Option.getD_some]
    · rintro e w' ⟨v', rfl, hown, hne, hb⟩
      obtain ⟨s', rfl, hI, hf⟩ := own_rows R.wid hown
      refine ⟨s', rfl, hI, hf, ?_, Grow.of_below hb⟩
      cases s' with
      | nil => exact absurd rfl hne
      | mk => rfl
end
end Go.Proofs.YtibmnofpoenonaaGreatDoor
namespace Go.Proofs.YtibmnofpoenonaaGreatDoor
open Go Go.RowKit

theorem alloc_size' (w : World) (o : Obj) : (w.alloc o).heap.size = w.heap.size + 1 := by unfold World.alloc; exact Array.size_push _
/-- Two worlds that differ in one block at most. -/
structure Off (b : Nat) (W W' : World) : Prop where
  size : W'.heap.size = W.heap.size
  block : ∀ k, k ≠ b → W'.heap[k]? = W.heap[k]?
theorem Off.base (w : World) (o p : Obj) (b : Nat) (h : b = w.heap.size) : Off b (w.alloc o) (w.alloc p) := by
  subst h
  refine ⟨by rw [alloc_size', alloc_size'], fun k hk => ?_⟩
  simp only [World.alloc, Array.getElem?_push, if_neg hk]
theorem Off.alloc {b : Nat} {W W' : World} (h : Off b W W') (o : Obj) : Off b (W.alloc o) (W'.alloc o) := by
  refine ⟨by rw [alloc_size', alloc_size', h.size], fun k hk => ?_⟩
  simp only [World.alloc, Array.getElem?_push, h.size]
  split
  · rfl
  · exact h.block k hk
theorem Off.plus {b : Nat} {W W' : World} (h : Off b W W') (x : Ext) : Off b (W.plus x) (W'.plus x) := by
  refine ⟨by simp [World.plus, h.size], fun k hk => ?_⟩
  simp only [World.plus, Array.getElem?_append, h.size]
  split
  · exact h.block k hk
  · rfl
theorem Ints.off {b : Nat} {W W' : World} {s : Sl} {l : List Int} (h : Ints W s l) (o : Off b W W') (hs : 0 < l.length → s.b ≠ b) : Ints W' s l :=
  ⟨h.len, h.cap, fun i hi => by rw [World.cell?_of_block (o.block s.b (hs (by omega)))]; exact h.cell i hi⟩
theorem Rows'.off {b k : Nat} {W W' : World} {s : Sl} {l : List (List Int)} (h : Rows' W s k l) (o : Off b W W') (hs : 0 < l.length → s.b ≠ b) : Rows' W' s k l :=
  ⟨h.len, h.cap, h.wid, fun i j hi hj => by rw [World.cell?_of_block (o.block s.b (hs (by omega)))]; exact h.cell i j hi hj⟩

def upd {α : Type} (f : Nat → α) (z : Nat) (x : α) : Nat → α := fun i => if i = z then x else f i
theorem upd_same {α : Type} (f : Nat → α) (z : Nat) (x : α) : upd f z x z = x := by simp [upd]
theorem upd_ne {α : Type} (f : Nat → α) (z i : Nat) (x : α) (h : i ≠ z) : upd f z x i = f i := by simp [upd, h]
@[go_sem] theorem stA_setObjs (V : SV) (num : Nat → Int) (s : Sl) : (stA V num).setIfInBounds 0 s.val = stA { V with objs := s } num := by
  apply Array.ext_getElem?
  intro i
  rw [Array.getElem?_setIfInBounds]
  by_cases h : 0 = i
  · subst h; simp [stA]
  · rw [if_neg h]
    simp only [stA, List.getElem?_toArray, List.getElem?_map]
    by_cases h2 : i < 37
    · simp [h2, Ne.symm h]
    · simp [h2]
@[go_sem] theorem stA_setList (V : SV) (num : Nat → Int) (z : Nat) (s : Sl) (hz : z < 11) : (stA V num).setIfInBounds (1 + z) s.val = stA { V with list := upd V.list z s } num := by
  apply Array.ext_getElem?
  intro i
  rw [Array.getElem?_setIfInBounds]
  by_cases h : 1 + z = i
  · subst h
    rw [if_pos rfl, if_pos (by simp [stA]; omega)]
    simp [stA, show 1 + z < 37 by omega, show 1 + z < 12 by omega, upd]
  · rw [if_neg h]
    simp only [stA, List.getElem?_toArray, List.getElem?_map]
    by_cases h2 : i < 37
    · rw [List.getElem?_eq_getElem (by simpa using h2)]
      simp only [List.getElem_range, Option.map_some]
      congr 1
      by_cases h0 : i = 0
      · simp [h0]
      · by_cases h12 : i < 12
        · simp [h0, h12, upd, show ¬ i - 1 = z by omega]
        · simp [h0, h12]
    · simp [h2]

theorem loadVar_State (w : World) (b : Nat) (h : (w.blk b).size = 37) : (loadVar 29 ⟨b, 0, none⟩).run Tryz.prog w = .ok (.agg (sub (w.blk b) 0 37)) w := by
  have := run_load_State w b 0 (by omega)
  unfold ldRow at this
  rw [Sem.run_bind] at this
  simp only [Instr.loadAt, Instr.sureAddr, Sem.run_bind, Sem.run_pure, Result.andThen_ok] at this
  cases hr : (loadVar 29 ⟨b, 0, none⟩).run Tryz.prog w with
  | ok v w' => rw [hr] at this; simp at this; rw [this.1, this.2]
  | halt x w' => rw [hr] at this; simp [Result.andThen] at this
theorem results_S {fn : Func} {p : Tmp} (h : fn.results = #[.cell p 29]) (tmps : Array Value) (w : World) (b : Nat) (hp : tmps.getD p undef = .pointer (some ⟨b, 0, none⟩)) (h1 : (w.blk b).size = 37) :
    (results fn tmps).run Tryz.prog w = .ok (.agg (sub (w.blk b) 0 37)) w := by
  unfold results
  rw [h]
  have e1 := loadVar_State w b h1
  have hp' : tmps[p]?.getD undef = .pointer (some ⟨b, 0, none⟩) := by simpa using hp
  simp [asAddr, hp', e1]

def SV.zero : SV := ⟨.nil, fun _ => .nil⟩
@[go_sem] theorem cells_State0 (t : TypeId) (fr : Nat × Nat) : Obj.cells #[.slice none 0 0, .slice none 0 0, .slice none 0 0, .slice none 0 0, .slice none 0 0, .slice none 0 0, .slice none 0 0, .slice none 0 0, .slice none 0 0, .slice none 0 0, .slice none 0 0, .slice none 0 0, .int .i64 0, .int .i64 0, .int .i64 0, .int .i64 0, .int .i64 0, .int .i64 0, .int .i64 0, .int .i64 0, .int .i64 0, .int .i64 0, .int .i64 0, .int .i64 0, .int .i64 0, .int .i64 0, .int .i64 0, .int .i64 0, .int .i64 0, .int .i64 0, .int .i64 0, .int .i64 0, .int .i64 0, .int .i64 0, .int .i64 0, .int .i64 0, .int .i64 0] t fr = .cells (stA SV.zero fun _ => 0) t fr := by rfl

/-- A state whose lists are not too long for any machine. -/
structure Small (S : St) : Prop where
  objs : S.objs.length ≤ 1048576
  list : ∀ z, z < 11 → (S.list z).length ≤ 1048576

set_option maxRecDepth 100000 in
set_option maxHeartbeats 2000000 in
theorem copy_any (S : St) (V : SV) (w : World) (R : RepSt w V S) (hS : Small S) :
    Calls Tryz.prog 28 #[.agg (stA V S.num)] w fun e w' => ∃ V', e = .returned (.agg (stA V' S.num)) ∧ RepSt w' V' S ∧ Grow w w' := by
  go_enter Tryz.func28, Tryz.ntmps28
  go_wp2_with fail
  go_at_call 49
  refine (clone_objs _ V.objs S.objs (R.objs.grow (by repeat (first | exact Grow.refl _ | refine Grow.andr ?_ | refine Grow.plus ?_ _ | refine Grow.alloc ?_ _ | refine Grow.drew ?_ | refine Grow.drewN ?_ _))) hS.objs).mono ?_
  rintro e w' ⟨so, rfl, hO, hOf, _, nx, rfl⟩
  have hOb : 0 < S.objs.length → w.heap.size + 2 ≤ so.b := fun h => by
    have h1 := hOf (by cases so with
      | nil => have := hO.len; simp [Sl.n] at this; omega
      | mk => rfl)
    simpa [alloc_size'] using h1
  go_wp2_with fail
  have hO2 : Rows' (((w.alloc (.cells (stA { V with objs := so } S.num) 29)).alloc (.cells (stA SV.zero fun _ => 0) 29)).plus nx) so 18 S.objs :=
    hO.off (b := w.heap.size) (by repeat (first | exact Off.base _ _ _ _ rfl | refine Off.plus ?_ _ | refine Off.alloc ?_ _)) (fun h => by have := hOb h; omega)
  go_loopw [3, 8] (fun _ i wr => ∃ (k : Nat) (V' : SV) (x : Ext), k ≤ 11 ∧ i = .int .i64 k ∧ wr = ((w.alloc (.cells (stA V' S.num) 29)).alloc (.cells (stA SV.zero fun _ => 0) 29)).plus x ∧
    Rows' wr V'.objs 18 S.objs ∧ (0 < S.objs.length → w.heap.size + 2 ≤ V'.objs.b) ∧ (∀ z, z < k → Ints wr (V'.list z) (S.list z) ∧ (0 < (S.list z).length → w.heap.size + 2 ≤ (V'.list z).b)) ∧ (∀ z, k ≤ z → V'.list z = V.list z)) (fun _ i _ => 11 - (intOf i).toNat)
  case atStart => exact ⟨0, _, nx, by omega, rfl, rfl, hO2, hOb, fun z hz => by omega, fun z _ => rfl⟩
  case round =>
    obtain ⟨k, V', x, hk, rfl, rfl, hO3, hOb3, hL3, hV3⟩ := hrel
    have HO3 := Lib.hid hO3
    have HL3 := Lib.hid hL3
    have HV3 := Lib.hid hV3
    clear hO hO2 hO3 hL3 hV3
    by_cases hlt : k < 11
    · have hVk := HV3.out k (Nat.le_refl _)
      go_wp2_with fail
      go_at_call 29
      refine (clone_ints _ (V.list k) (S.list k) ((R.list k hlt).grow (by repeat (first | exact Grow.refl _ | refine Grow.andr ?_ | refine Grow.plus ?_ _ | refine Grow.alloc ?_ _ | refine Grow.drew ?_ | refine Grow.drewN ?_ _))) (hS.list k hlt)).mono ?_
      rintro e w' ⟨sk, rfl, hI, hIf, _, ny, rfl⟩
      rw [plus_plus] at hI
      have HI := Lib.hid hI
      clear hI
      go_wp2_with fail
      refine ⟨⟨k + 1, _, _, by omega, by go_num, rfl, ?_, hOb3, ?_, ?_⟩, by simp [intOf]; omega⟩
      · rw [← plus_plus]
        exact (HO3.out.off (b := w.heap.size) (by repeat (first | exact Off.base _ _ _ _ rfl | refine Off.plus ?_ _ | refine Off.alloc ?_ _)) (fun h => by have := hOb3 h; omega)).grow ⟨ny, rfl⟩
      · intro z hz
        by_cases e : z = k
        · subst e
          have hkb : 0 < (S.list z).length → w.heap.size + 2 ≤ sk.b := fun h => by
            have h1 := hIf (by cases sk with
              | nil => have := HI.out.len; simp [Sl.n] at this; omega
              | mk => rfl)
            rw [plus_size, alloc_size', alloc_size'] at h1; omega
          simp only [upd_same]
          exact ⟨HI.out.off (b := w.heap.size) (by repeat (first | exact Off.base _ _ _ _ rfl | refine Off.plus ?_ _ | refine Off.alloc ?_ _)) (fun h => by have := hkb h; omega), hkb⟩
        · simp only [upd_ne _ _ _ _ e]
          obtain ⟨h1, h2⟩ := HL3.out z (by omega)
          refine ⟨?_, h2⟩
          rw [← plus_plus]
          exact (h1.off (b := w.heap.size) (by repeat (first | exact Off.base _ _ _ _ rfl | refine Off.plus ?_ _ | refine Off.alloc ?_ _)) (fun h => by have := h2 h; omega)).grow ⟨ny, rfl⟩
      · intro z hz
        show upd V'.list k sk z = V.list z
        rw [upd_ne _ _ _ _ (by omega), HV3.out z (by omega)]
    · go_wp2_with fail
      refine bodyPost_ret (results_S rfl _ _ (w.heap.size + 1) rfl ?_) rfl ?_
      · go_simp
      · refine ⟨V', by go_simp, ⟨?_, fun z hz => ?_⟩, (by repeat (first | exact Grow.refl _ | refine Grow.andr ?_ | refine Grow.plus ?_ _ | refine Grow.alloc ?_ _ | refine Grow.drew ?_ | refine Grow.drewN ?_ _))⟩
        · exact HO3.out.off (b := w.heap.size + 1) (by repeat (first | exact Off.base _ _ _ _ (alloc_size' _ _).symm | refine Off.plus ?_ _ | refine Off.alloc ?_ _)) (fun h => by have := hOb3 h; omega)
        · obtain ⟨h1, h2⟩ := HL3.out z (by omega)
          exact h1.off (b := w.heap.size + 1) (by repeat (first | exact Off.base _ _ _ _ (alloc_size' _ _).symm | refine Off.plus ?_ _ | refine Off.alloc ?_ _)) (fun h => by have := h2 h; omega)
end Go.Proofs.YtibmnofpoenonaaGreatDoor
