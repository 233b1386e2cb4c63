/-
  Worlds of which some blocks only may turn; slices by their cells; append.
-/
import Derived.Test.YtibmnofpoenonaaGreatDoorCopy
import Derived.Deep.Upon
import Derived.Deep.Light
namespace Go.Proofs.YtibmnofpoenonaaGreatDoor
open Go Go.RowKit

/-- Only the told blocks, and new ones, have turned. -/
structure Kept (own : Nat → Prop) (w w' : World) : Prop where
  os : w'.os = w.os
  tape : w'.tape = w.tape
  output : w'.output = w.output
  size : w.heap.size ≤ w'.heap.size
  block : ∀ k, k < w.heap.size → ¬ own k → w'.heap[k]? = w.heap[k]?
theorem Kept.refl (own : Nat → Prop) (w : World) : Kept own w w := ⟨rfl, rfl, rfl, Nat.le_refl _, fun _ _ _ => rfl⟩
theorem Kept.trans {o1 o2 : Nat → Prop} {a b c : World} (h : Kept o1 a b) (g : Kept o2 b c) (h2 : ∀ k, k < a.heap.size → o2 k → o1 k) : Kept o1 a c :=
  ⟨g.os.trans h.os, g.tape.trans h.tape, g.output.trans h.output, Nat.le_trans h.size g.size, fun k hk hn => by
    rw [g.block k (Nat.lt_of_lt_of_le hk h.size) (fun h => hn (h2 k hk h)), h.block k hk hn]⟩
theorem Kept.mono {o1 o2 : Nat → Prop} {a b : World} (h : Kept o1 a b) (h2 : ∀ k, k < a.heap.size → o1 k → o2 k) : Kept o2 a b :=
  ⟨h.os, h.tape, h.output, h.size, fun k hk hn => h.block k hk (fun h => hn (h2 k hk h))⟩
theorem Grow.kept {a b : World} (own : Nat → Prop) (h : Grow a b) : Kept own a b := by
  obtain ⟨h1, h2, h3, h4, h5⟩ := h.below
  exact ⟨h1, h2, h3, h4, fun k hk _ => h5 k hk⟩
theorem Kept.grow {own : Nat → Prop} {a b : World} (h : Kept own a b) (hn : ∀ k, k < a.heap.size → ¬ own k) : Grow a b :=
  Grow.of_below ⟨h.os, h.tape, h.output, h.size, fun k hk => h.block k hk (hn k hk)⟩
theorem Kept.plus {own : Nat → Prop} {a b : World} (h : Kept own a b) (x : Ext) : Kept own a (b.plus x) := h.trans (o2 := fun _ => False) (Grow.kept _ ⟨x, rfl⟩) (fun _ _ h => h.elim)
theorem Kept.alloc {own : Nat → Prop} {a b : World} (h : Kept own a b) (o : Obj) : Kept own a (b.alloc o) := h.trans (o2 := fun _ => False) (Grow.kept _ ((Grow.refl b).alloc o)) (fun _ _ h => h.elim)
theorem Kept.drew {own : Nat → Prop} {a b : World} (h : Kept own a b) : Kept own a b.drew := h.trans (o2 := fun _ => False) (Grow.kept _ (Grow.refl b).drew) (fun _ _ h => h.elim)
theorem Kept.setRow {own : Nat → Prop} {a w : World} (h : Kept own a w) (b : Nat) (cs : Array Value) (hb : b < a.heap.size → own b) : Kept own a (w.setRow b cs) := by
  refine ⟨h.os, h.tape, h.output, by rw [size_setRow]; exact h.size, fun k hk hn => ?_⟩
  rw [← h.block k hk hn]
  simp only [World.setRow, Array.getElem?_modify]
  rw [if_neg (by rintro rfl; exact hn (hb hk))]
theorem Kept.setCell {own : Nat → Prop} {a w : World} (h : Kept own a w) (b o : Nat) (v : Value) (hb : b < a.heap.size → own b) : Kept own a (w.setCell ⟨b, o, none⟩ v) := by
  refine ⟨h.os, h.tape, h.output, by simpa [World.setCell] using h.size, fun k hk hn => ?_⟩
  rw [← h.block k hk hn]
  simp only [World.setCell, Array.getElem?_modify]
  rw [if_neg (by rintro rfl; exact hn (hb hk))]
theorem Kept.setCells {own : Nat → Prop} {a : World} (b : Nat) (hb : b < a.heap.size → own b) : ∀ (vs : List Value) (o : Nat) (w : World), Kept own a w → Kept own a (w.setCells b o vs)
  | [], _, _, h => h
  | v :: r, o, _, h => Kept.setCells b hb r (o + 1) _ (h.setCell b o v hb)
theorem Kept.cell {own : Nat → Prop} {a w : World} (h : Kept own a w) (b o : Nat) (hb : b < a.heap.size) (hn : ¬ own b) : w.cell? ⟨b, o, none⟩ = a.cell? ⟨b, o, none⟩ := World.cell?_of_block (h.block b hb hn)
theorem Kept.blk {own : Nat → Prop} {a w : World} (h : Kept own a w) (b : Nat) (hb : b < a.heap.size) (hn : ¬ own b) : w.blk b = a.blk b := by
  simp only [World.blk, h.block b hb hn]
theorem Kept.free {own : Nat → Prop} {a w : World} (h : Kept own a w) (b : Nat) (hb : b < a.heap.size) (hn : ¬ own b) : w.free b = a.free b := by
  simp only [World.free, h.block b hb hn]
theorem Ints.kept {own : Nat → Prop} {W W' : World} {s : Sl} {l : List Int} (h : Ints W s l) (o : Kept own W W') (hs : 0 < l.length → ¬ own s.b) : Ints W' s l :=
  ⟨h.len, h.cap, fun i hi => by rw [o.cell _ _ (cell_blk (h.cell i hi)).1 (hs (by omega))]; exact h.cell i hi⟩
theorem Rows'.kept {own : Nat → Prop} {k : Nat} {W W' : World} {s : Sl} {l : List (List Int)} (h : Rows' W s k l) (o : Kept own W W') (hs : 0 < l.length → ¬ own s.b) : Rows' W' s k l :=
  ⟨h.len, h.cap, h.wid, fun i j hi hj => by rw [o.cell _ _ (cell_blk (h.cell i j hi hj)).1 (hs (by omega))]; exact h.cell i j hi hj⟩

/-! ### Slices by their cells -/
structure Cells (w : World) (s : Sl) (k : Nat) (xs : List Value) : Prop where
  len : xs.length = s.n * k
  cap : s.n ≤ s.c
  cell : ∀ j u, xs[j]? = some u → w.cell? ⟨s.b, s.o + j, none⟩ = some u
theorem Ints.cells {w : World} {s : Sl} {l : List Int} (h : Ints w s l) : Cells w s 1 (l.map I) := by
  refine ⟨by rw [List.length_map, h.len, Nat.mul_one], h.cap, fun j u hu => ?_⟩
  obtain ⟨hj, _⟩ := List.getElem?_eq_some_iff.1 hu
  rw [List.length_map] at hj
  rw [h.cell j hj, ← hu]; simp [gt, hj]
theorem Cells.ints {w : World} {s : Sl} {l : List Int} (h : Cells w s 1 (l.map I)) : Ints w s l := by
  have hl : s.n = l.length := by have := h.len; rw [List.length_map, Nat.mul_one] at this; exact this.symm
  exact ⟨hl, h.cap, fun i hi => h.cell i _ (by simp [gt, hi])⟩
theorem Rows'.cells {w : World} {s : Sl} {k : Nat} {l : List (List Int)} (h : Rows' w s k l) : Cells w s k (flat l) := by
  obtain ⟨f1, f2⟩ := flat_at k l h.wid
  refine ⟨by rw [flat, List.length_map, f1, h.len], h.cap, fun j u hu => ?_⟩
  have hj : j < l.length * k := by
    have := (List.getElem?_eq_some_iff.1 hu).1
    rw [flat, List.length_map, f1] at this; exact this
  rcases Nat.eq_zero_or_pos k with hk | hk
  · subst hk; simp at hj
  have hd : j / k < l.length := Nat.div_lt_of_lt_mul (by rw [Nat.mul_comm]; exact hj)
  have hm : j % k < k := Nat.mod_lt _ hk
  have hjk : j / k * k + j % k = j := by rw [Nat.mul_comm]; exact Nat.div_add_mod j k
  have h1 := h.cell (j / k) (j % k) hd hm
  rw [Nat.add_assoc, hjk] at h1
  rw [h1, ← hu, ← f2 _ _ hd hm, hjk]
  have hfl : j < l.flatten.length := by rw [f1]; exact hj
  simp only [flat, List.getElem?_map, List.getElem?_eq_getElem hfl, Option.map_some, gt, List.getD, Option.getD_some]
theorem Cells.rows {w : World} {s : Sl} {k : Nat} {l : List (List Int)} (h : Cells w s k (flat l)) (hk : 0 < k) (hw : ∀ i, i < l.length → (rowAt l i).length = k) : Rows' w s k l := by
  obtain ⟨f1, f2⟩ := flat_at k l hw
  have hl : s.n = l.length := by
    have := h.len
    rw [flat, List.length_map, f1] at this
    exact (Nat.eq_of_mul_eq_mul_right hk this).symm
  refine ⟨hl, h.cap, hw, fun i j hi hj => ?_⟩
  have hij : i * k + j < l.length * k := by
    have : (i + 1) * k ≤ l.length * k := Nat.mul_le_mul_right _ hi
    rw [Nat.add_mul] at this; omega
  have hfl : i * k + j < l.flatten.length := by rw [f1]; exact hij
  rw [Nat.add_assoc]
  refine h.cell _ _ ?_
  rw [← f2 i j hi hj]
  simp only [flat, List.getElem?_map, List.getElem?_eq_getElem hfl, Option.map_some, gt, List.getD, Option.getD_some]
theorem flat_append (a b : List (List Int)) : flat (a ++ b) = flat a ++ flat b := by simp [flat]
theorem wid_append {k : Nat} {a b : List (List Int)} (ha : ∀ i, i < a.length → (rowAt a i).length = k) (hb : ∀ i, i < b.length → (rowAt b i).length = k) : ∀ i, i < (a ++ b).length → (rowAt (a ++ b) i).length = k := by
  intro i hi
  by_cases h : i < a.length
  · rw [rowAt, List.getD, List.getElem?_append_left h]; exact ha i h
  · rw [rowAt, List.getD, List.getElem?_append_right (by omega)]; exact hb (i - a.length) (by simp at hi; omega)
def Sl.owns : Sl → Nat → Prop
  | .nil, _ => False
  | .mk b _ _ _, k => k = b
/-- What a slice has behind its cells may be written. -/
structure Room (w : World) (s : Sl) (k : Nat) : Prop where
  max : s.c ≤ maxLen
  there : ∀ j, j < s.c * k → (w.cell? ⟨s.b, s.o + j, none⟩).isSome = true ∧ w.frozen? ⟨s.b, s.o + j, none⟩ = false
theorem Room.nil (w : World) (k : Nat) : Room w .nil k := ⟨Nat.zero_le _, fun j hj => by simp [Sl.c] at hj⟩
theorem Room.kept {own : Nat → Prop} {w w' : World} {s : Sl} {k : Nat} (h : Room w s k) (g : Kept own w w') (hn : ∀ b, s.owns b → ¬ own b) : Room w' s k := by
  refine ⟨h.max, fun j hj => ?_⟩
  obtain ⟨h1, h2⟩ := h.there j hj
  obtain ⟨v, hv⟩ := Option.isSome_iff_exists.1 h1
  have hb := (cell_blk hv).1
  cases s with
  | nil => simp [Sl.c] at hj
  | mk b o n c =>
    have e := g.block b hb (hn b rfl)
    show (w'.cell? ⟨b, o + j, none⟩).isSome = true ∧ w'.frozen? ⟨b, o + j, none⟩ = false
    rw [World.cell?_of_block (a := ⟨b, o + j, none⟩) e, World.frozen?_of_block (a := ⟨b, o + j, none⟩) e]
    exact ⟨h1, h2⟩

theorem run_append_cells {P : Program} (w : World) (t tx ty e : TypeId) (i : TypeInfo) (z : Value) (k bytes : Nat) (ht : P.underlying t = some (.slice e)) (htx : P.underlying tx = some (.slice e)) (hi : P.info? e = some i) (hz : i.zero = some z)
    (hk : i.size = k) (hby : i.bytes = bytes) (hbb : bytes ≤ 1024) (hzc : z.cells.size = k) (s s2 : Sl) (xs ys : List Value) (R : Cells w s k xs) (O : Room w s k) (R2 : Cells w s2 k ys) (h1 : ∀ u ∈ xs, u.oneCell' = true) (h2 : ∀ u ∈ ys, u.oneCell' = true) (hb : s.n + s2.n ≤ 4194304) :
    ∃ s' w', (Builtin.append_ #[t, tx] ty #[s.val, s2.val]).run P w = .ok s'.val w' ∧ Cells w' s' k (xs ++ ys) ∧ Room w' s' k ∧ Kept s.owns w w' ∧ (∀ b, s'.owns b → s.owns b ∨ (w.heap.size ≤ b ∧ b < w'.heap.size)) ∧ s'.n = s.n + s2.n ∧ (s'.isNil = true → s.n + s2.n = 0) := by
  subst hk hby
  have hs : Src P i.size tx s2.val s2.n ys w := by
    cases s2 with
    | nil =>
      have : ys = [] := List.eq_nil_of_length_eq_zero (by have := R2.len; simpa [Sl.n] using this)
      subst this
      exact Src.ofNil w htx 0
    | mk b o n c => exact Src.ofSlice w htx ⟨b, o, none⟩ n c ys R2.len (fun j u hj => by rw [Addr.add_lit]; exact R2.cell j u hj) h2
  have hml : s.n + s2.n ≤ maxLen := by unfold maxLen; omega
  by_cases hroom : s.n + s2.n ≤ s.c
  · cases s with
    | nil =>
      have hroom : 0 + s2.n ≤ 0 := hroom
      have hs0 : s2.n = 0 := by omega
      have hy : ys = [] := List.eq_nil_of_length_eq_zero (by rw [R2.len, hs0, Nat.zero_mul])
      have hx : xs = [] := List.eq_nil_of_length_eq_zero (by have := R.len; simpa [Sl.n] using this)
      subst hy hx
      refine ⟨.nil, w, ?_, R, Room.nil _ _, Kept.refl _ _, fun b h => h.elim, (by rw [hs0]; rfl), fun _ => (by rw [hs0]; rfl)⟩
      rw [hs0] at hs
      have := run_append_nothing (P := P) w t tx ty e i ht hi none 0 0 (Nat.le_refl _) s2.val hs
      simpa [Sl.val] using this
    | mk b o n c =>
      have hroom : n + s2.n ≤ c := hroom
      have hyl : ys.length = s2.n * i.size := R2.len
      have hfit : ∀ j, j < ys.length → n * i.size + j < c * i.size := fun j hj => by
        have : (n + s2.n) * i.size ≤ c * i.size := Nat.mul_le_mul_right _ hroom
        rw [Nat.add_mul] at this; omega
      have hth := fun j (hj : j < ys.length) => O.there _ (hfit j hj)
      simp only [Sl.b, Sl.o] at hth
      refine ⟨.mk b o (n + s2.n) c, w.setCells b (o + n * i.size) ys, ?_, ?_, ?_, ?_, fun b' h => Or.inl h, rfl, fun h => by cases h⟩
      · exact run_append_room_src (P := P) w t tx ty e i ht hi b o n c s2.val s2.n ys hs hroom (fun j hj => by rw [Nat.add_assoc]; exact (hth j hj).1) (fun j hj => by rw [Nat.add_assoc]; exact (hth j hj).2)
      · refine ⟨by rw [List.length_append, R.len, R2.len, ← Nat.add_mul]; rfl, hroom, fun j u hu => ?_⟩
        have hxl : xs.length = n * i.size := R.len
        simp only [Sl.b, Sl.o]
        by_cases hj : j < xs.length
        · rw [List.getElem?_append_left hj] at hu
          rw [World.cell?_setCells_out b _ _ _ _ (fun _ _ => Or.inl (by show o + j < o + n * i.size; omega))]
          exact R.cell j u hu
        · rw [List.getElem?_append_right (by omega)] at hu
          have hj2 := (List.getElem?_eq_some_iff.1 hu).1
          have := World.cell?_setCells_in b ys (o + n * i.size) w (fun q hq => by rw [Nat.add_assoc]; exact (hth q hq).1) (j - xs.length) hj2
          rw [show o + j = o + n * i.size + (j - xs.length) by omega, this, ← hu, List.getElem?_eq_getElem hj2]
      · refine ⟨O.max, fun j hj => ?_⟩
        obtain ⟨t1, t2⟩ := O.there j hj
        rw [World.frozen?_setCells]
        refine ⟨?_, t2⟩
        by_cases hin : n * i.size ≤ j ∧ j < n * i.size + ys.length
        · have := World.cell?_setCells_in b ys (o + n * i.size) w (fun q hq => by rw [Nat.add_assoc]; exact (hth q hq).1) (j - n * i.size) (by omega)
          simp only [Sl.b, Sl.o]
          rw [show o + j = o + n * i.size + (j - n * i.size) by omega, this]; rfl
        · simp only [Sl.b, Sl.o] at t1 ⊢
          rw [World.cell?_setCells_out b _ _ _ _ (fun _ _ => by show o + j < o + n * i.size ∨ o + n * i.size + ys.length ≤ o + j; omega)]
          exact t1
      · exact Kept.setCells (own := Sl.owns (.mk b o n c)) b (fun _ => rfl) ys _ _ (Kept.refl _ _)
  · have hg : s.c < s.n + s2.n := by omega
    have hbytes : (s.n + s2.n) * i.bytes ≤ 140737488355328 := by
      have : (s.n + s2.n) * i.bytes ≤ 4194304 * 1024 := Nat.mul_le_mul hb hbb
      omega
    have hsv : ∃ ao, s.val = .slice ao s.n s.c ∧ (Builtin.firstCells i.size s.n (.slice ao s.n s.c)).run P w.drew = .ok xs.toArray w.drew := by
      cases s with
      | nil =>
        have hx : xs = [] := List.eq_nil_of_length_eq_zero (by have := R.len; simpa [Sl.n] using this)
        subst hx
        exact ⟨none, rfl, run_firstCells_none w.drew i.size 0 0 0⟩
      | mk b o n c =>
        exact ⟨some ⟨b, o, none⟩, rfl, run_firstCells_some w.drew i.size n ⟨b, o, none⟩ n c xs R.len (fun j u hj => by rw [Addr.add_lit]; exact R.cell j u hj)⟩
    obtain ⟨ao, hv, hfc⟩ := hsv
    have hcap := grownCap_ge w (s.n + s2.n) s.c e
    have hmx := grownCap_le_maxLen w (s.n + s2.n) s.c e hml
    refine ⟨.mk w.heap.size 0 (s.n + s2.n) (grownCap w (s.n + s2.n) s.c e), w.drew.alloc (.cells ((xs ++ ys).toArray ++ Builtin.zeroCells z.cells (grownCap w (s.n + s2.n) s.c e - (s.n + s2.n))) e), ?_, ?_, ?_, ?_, ?_, rfl, fun h => by cases h⟩
    · rw [hv]
      exact run_append_grow_src (P := P) w t tx ty e i z ht hi hz ao s.n s.c xs hfc s2.val s2.n ys hs hg (by unfold maxLen at hml; omega) (growslice_fits hg hbytes)
    all_goals
      have hlen : (xs ++ ys).length = (s.n + s2.n) * i.size := by rw [List.length_append, R.len, R2.len, ← Nat.add_mul]
      have hd : w.heap.size = w.drew.heap.size := rfl
    · refine ⟨hlen, hcap, fun j u hu => ?_⟩
      have hj := (List.getElem?_eq_some_iff.1 hu).1
      simp only [Sl.b, Sl.o, Nat.zero_add]
      rw [alloc_cell, if_pos hd, Array.getElem?_append_left (by simpa using hj), ← hu]; simp
    · refine ⟨hmx, fun j hj => ?_⟩
      have hj : j < grownCap w (s.n + s2.n) s.c e * i.size := hj
      simp only [Sl.b, Sl.o, Nat.zero_add]
      rw [alloc_cell, if_pos hd, alloc_frozen, if_pos hd]
      refine ⟨?_, rfl⟩
      rw [Array.getElem?_eq_getElem (by
        rw [Array.size_append, size_zeroCells, hzc, List.size_toArray, hlen, ← Nat.add_mul, Nat.add_sub_cancel' hcap]; exact hj)]
      rfl
    · exact (Kept.refl _ _).drew.alloc _
    · intro b h
      have h : b = w.heap.size := h
      subst h
      right
      rw [alloc_size']
      exact ⟨Nat.le_refl _, Nat.lt_succ_self _⟩
end Go.Proofs.YtibmnofpoenonaaGreatDoor
