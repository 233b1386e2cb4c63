/- Worlds of which some blocks only may turn; slices by their cells; append. -/
import Derived.Test.YthfalocligkamaaGreatDoorMSt
import Derived.Deep.Upon
import Derived.Deep.Light
import Derived.Test.YthfalocligkamaaGreatDoorLay
import Derived.Ground.Names2Prog
import Derived.Shelf.SlicesE.Delete
import Derived.Shelf.SlicesG.Turned
import Derived.Shelf.Spec.SlicesInsert
import Derived.Shelf.Spec.SlicesInsertGrow
namespace Go.Proofs.YthfalocligkamaaGreatDoor
open Go Go.RowKit
structure Kept (own : Nat → Prop) (w w' : World) : Prop where
 os : w'.os = w.os
 tape : w'.tape = w.tape
 output : w'.output = w.output
 size : w.heap.size ≤ w'.heap.size
 block : ∀ k, k < w.heap.size → ¬ own k → w'.heap[k]? = w.heap[k]?
theorem Kept.refl (own : Nat → Prop) (w : World) : Kept own w w := ⟨rfl, rfl, rfl, Nat.le_refl _, fun _ _ _ => rfl⟩
theorem Kept.trans {o1 o2 : Nat → Prop} {a b c : World} (h : Kept o1 a b) (g : Kept o2 b c) (h2 : ∀ k, k < a.heap.size → o2 k → o1 k) : Kept o1 a c :=
 ⟨g.os.trans h.os, g.tape.trans h.tape, g.output.trans h.output, Nat.le_trans h.size g.size, fun k hk hn => by
  rw [g.block k (Nat.lt_of_lt_of_le hk h.size) (fun h => hn (h2 k hk h)), h.block k hk hn]⟩
theorem Kept.mono {o1 o2 : Nat → Prop} {a b : World} (h : Kept o1 a b) (h2 : ∀ k, k < a.heap.size → o1 k → o2 k) : Kept o2 a b :=
 ⟨h.os, h.tape, h.output, h.size, fun k hk hn => h.block k hk (fun h => hn (h2 k hk h))⟩
theorem Grow.kept {a b : World} (own : Nat → Prop) (h : Grow a b) : Kept own a b := by
 obtain ⟨h1, h2, h3, h4, h5⟩ := h.below
 exact ⟨h1, h2, h3, h4, fun k hk _ => h5 k hk⟩
theorem Kept.grow {own : Nat → Prop} {a b : World} (h : Kept own a b) (hn : ∀ k, k < a.heap.size → ¬ own k) : Grow a b :=
 Grow.of_below ⟨h.os, h.tape, h.output, h.size, fun k hk => h.block k hk (hn k hk)⟩
theorem Kept.plus {own : Nat → Prop} {a b : World} (h : Kept own a b) (x : Ext) : Kept own a (b.plus x) := h.trans (o2 := fun _ => False) (Grow.kept _ ⟨x, rfl⟩) (fun _ _ h => h.elim)
theorem Kept.alloc {own : Nat → Prop} {a b : World} (h : Kept own a b) (o : Obj) : Kept own a (b.alloc o) := h.trans (o2 := fun _ => False) (Grow.kept _ ((Grow.refl b).alloc o)) (fun _ _ h => h.elim)
theorem Kept.drew {own : Nat → Prop} {a b : World} (h : Kept own a b) : Kept own a b.drew := h.trans (o2 := fun _ => False) (Grow.kept _ (Grow.refl b).drew) (fun _ _ h => h.elim)
theorem Kept.setRow {own : Nat → Prop} {a w : World} (h : Kept own a w) (b : Nat) (cs : Array Value) (hb : b < a.heap.size → own b) : Kept own a (w.setRow b cs) := by
 refine ⟨h.os, h.tape, h.output, by rw [size_setRow]; exact h.size, fun k hk hn => ?_⟩
 rw [← h.block k hk hn]
 simp only [World.setRow, Array.getElem?_modify]
 rw [if_neg (by rintro rfl; exact hn (hb hk))]
theorem Kept.setCell {own : Nat → Prop} {a w : World} (h : Kept own a w) (b o : Nat) (v : Value) (hb : b < a.heap.size → own b) : Kept own a (w.setCell ⟨b, o, none⟩ v) := by
 refine ⟨h.os, h.tape, h.output, by simpa [World.setCell] using h.size, fun k hk hn => ?_⟩
 rw [← h.block k hk hn]
 simp only [World.setCell, Array.getElem?_modify]
 rw [if_neg (by rintro rfl; exact hn (hb hk))]
theorem Kept.setCells {own : Nat → Prop} {a : World} (b : Nat) (hb : b < a.heap.size → own b) : ∀ (vs : List Value) (o : Nat) (w : World), Kept own a w → Kept own a (w.setCells b o vs)
 | [], _, _, h => h
 | v :: r, o, _, h => Kept.setCells b hb r (o + 1) _ (h.setCell b o v hb)
theorem Kept.cell {own : Nat → Prop} {a w : World} (h : Kept own a w) (b o : Nat) (hb : b < a.heap.size) (hn : ¬ own b) : w.cell? ⟨b, o, none⟩ = a.cell? ⟨b, o, none⟩ := World.cell?_of_block (h.block b hb hn)
theorem Kept.blk {own : Nat → Prop} {a w : World} (h : Kept own a w) (b : Nat) (hb : b < a.heap.size) (hn : ¬ own b) : w.blk b = a.blk b := by
 simp only [World.blk, h.block b hb hn]
theorem Kept.free {own : Nat → Prop} {a w : World} (h : Kept own a w) (b : Nat) (hb : b < a.heap.size) (hn : ¬ own b) : w.free b = a.free b := by
 simp only [World.free, h.block b hb hn]
theorem Ints.kept {own : Nat → Prop} {W W' : World} {s : Sl} {l : List Int} (h : Ints W s l) (o : Kept own W W') (hs : 0 < l.length → ¬ own s.b) : Ints W' s l :=
 ⟨h.len, h.cap, fun i hi => by rw [o.cell _ _ (zbd (h.cell i hi)).1 (hs (by omega))]; exact h.cell i hi⟩
theorem Rows'.kept {own : Nat → Prop} {k : Nat} {W W' : World} {s : Sl} {l : List (List Int)} (h : Rows' W s k l) (o : Kept own W W') (hs : 0 < l.length → ¬ own s.b) : Rows' W' s k l :=
 ⟨h.len, h.cap, h.wid, fun i j hi hj => by rw [o.cell _ _ (zbd (h.cell i j hi hj)).1 (hs (by omega))]; exact h.cell i j hi hj⟩
structure Cells (w : World) (s : Sl) (k : Nat) (xs : List Value) : Prop where
 len : xs.length = s.n * k
 cap : s.n ≤ s.c
 cell : ∀ j u, xs[j]? = some u → w.cell? ⟨s.b, s.o + j, none⟩ = some u
theorem Ints.cells {w : World} {s : Sl} {l : List Int} (h : Ints w s l) : Cells w s 1 (l.map I) := by
 refine ⟨by rw [List.length_map, h.len, Nat.mul_one], h.cap, fun j u hu => ?_⟩
 obtain ⟨hj, _⟩ := List.getElem?_eq_some_iff.1 hu
 rw [List.length_map] at hj
 rw [h.cell j hj, ← hu]; simp [gt, hj]
theorem Cells.ints {w : World} {s : Sl} {l : List Int} (h : Cells w s 1 (l.map I)) : Ints w s l := by
 have hl : s.n = l.length := by have := h.len; rw [List.length_map, Nat.mul_one] at this; exact this.symm
 exact ⟨hl, h.cap, fun i hi => h.cell i _ (by simp [gt, hi])⟩
theorem Rows'.cells {w : World} {s : Sl} {k : Nat} {l : List (List Int)} (h : Rows' w s k l) : Cells w s k (zea l) := by
 obtain ⟨f1, f2⟩ := zln k l h.wid
 refine ⟨by rw [zea, List.length_map, f1, h.len], h.cap, fun j u hu => ?_⟩
 have hj : j < l.length * k := by
  have := (List.getElem?_eq_some_iff.1 hu).1
  rw [zea, List.length_map, f1] at this; exact this
 rcases Nat.eq_zero_or_pos k with hk | hk
 · subst hk; simp at hj
 have hd : j / k < l.length := Nat.div_lt_of_lt_mul (by rw [Nat.mul_comm]; exact hj)
 have hm : j % k < k := Nat.mod_lt _ hk
 have hjk : j / k * k + j % k = j := by rw [Nat.mul_comm]; exact Nat.div_add_mod j k
 have h1 := h.cell (j / k) (j % k) hd hm
 rw [Nat.add_assoc, hjk] at h1
 rw [h1, ← hu, ← f2 _ _ hd hm, hjk]
 have hfl : j < l.flatten.length := by rw [f1]; exact hj
 simp only [zea, List.getElem?_map, List.getElem?_eq_getElem hfl, Option.map_some, gt, List.getD, Option.getD_some]
theorem Cells.rows {w : World} {s : Sl} {k : Nat} {l : List (List Int)} (h : Cells w s k (zea l)) (hk : 0 < k) (hw : ∀ i, i < l.length → (rowAt l i).length = k) : Rows' w s k l := by
 obtain ⟨f1, f2⟩ := zln k l hw
 have hl : s.n = l.length := by
  have := h.len
  rw [zea, List.length_map, f1] at this
  exact (Nat.eq_of_mul_eq_mul_right hk this).symm
 refine ⟨hl, h.cap, hw, fun i j hi hj => ?_⟩
 have hij : i * k + j < l.length * k := by
  have : (i + 1) * k ≤ l.length * k := Nat.mul_le_mul_right _ hi
  rw [Nat.add_mul] at this; omega
 have hfl : i * k + j < l.flatten.length := by rw [f1]; exact hij
 rw [Nat.add_assoc]
 refine h.cell _ _ ?_
 rw [← f2 i j hi hj]
 simp only [zea, List.getElem?_map, List.getElem?_eq_getElem hfl, Option.map_some, gt, List.getD, Option.getD_some]
theorem zgl (a b : List (List Int)) : zea (a ++ b) = zea a ++ zea b := by simp [zea]
theorem zh6 {k : Nat} {a b : List (List Int)} (ha : ∀ i, i < a.length → (rowAt a i).length = k) (hb : ∀ i, i < b.length → (rowAt b i).length = k) : ∀ i, i < (a ++ b).length → (rowAt (a ++ b) i).length = k := by
 intro i hi
 by_cases h : i < a.length
 · rw [rowAt, List.getD, List.getElem?_append_left h]; exact ha i h
 · rw [rowAt, List.getD, List.getElem?_append_right (by omega)]; exact hb (i - a.length) (by simp at hi; omega)
def Sl.owns : Sl → Nat → Prop
 | .nil, _ => False
 | .mk b _ _ _, k => k = b
structure Room (w : World) (s : Sl) (k : Nat) : Prop where
 max : s.c ≤ maxLen
 there : ∀ j, j < s.c * k → (w.cell? ⟨s.b, s.o + j, none⟩).isSome = true ∧ w.frozen? ⟨s.b, s.o + j, none⟩ = false
theorem Room.nil (w : World) (k : Nat) : Room w .nil k := ⟨Nat.zero_le _, fun j hj => by simp [Sl.c] at hj⟩
theorem Room.kept {own : Nat → Prop} {w w' : World} {s : Sl} {k : Nat} (h : Room w s k) (g : Kept own w w') (hn : ∀ b, s.owns b → ¬ own b) : Room w' s k := by
 refine ⟨h.max, fun j hj => ?_⟩
 obtain ⟨h1, h2⟩ := h.there j hj
 obtain ⟨v, hv⟩ := Option.isSome_iff_exists.1 h1
 have hb := (zbd hv).1
 cases s with
 | nil => simp [Sl.c] at hj
 | mk b o n c =>
   have e := g.block b hb (hn b rfl)
   show (w'.cell? ⟨b, o + j, none⟩).isSome = true ∧ w'.frozen? ⟨b, o + j, none⟩ = false
   rw [World.cell?_of_block (a := ⟨b, o + j, none⟩) e, World.frozen?_of_block (a := ⟨b, o + j, none⟩) e]
   exact ⟨h1, h2⟩
theorem zil {P : Program} (w : World) (t tx ty e : TypeId) (i : TypeInfo) (z : Value) (k bytes : Nat) (ht : P.underlying t = some (.slice e)) (htx : P.underlying tx = some (.slice e)) (hi : P.info? e = some i) (hz : i.zero = some z)
 (hk : i.size = k) (hby : i.bytes = bytes) (hbb : bytes ≤ 1024) (hzc : z.cells.size = k) (s s2 : Sl) (xs ys : List Value) (R : Cells w s k xs) (O : Room w s k) (R2 : Cells w s2 k ys) (h1 : ∀ u ∈ xs, u.oneCell' = true) (h2 : ∀ u ∈ ys, u.oneCell' = true) (hb : s.n + s2.n ≤ 4194304) :
 ∃ s' w', (Builtin.append_ #[t, tx] ty #[s.val, s2.val]).run P w = .ok s'.val w' ∧ Cells w' s' k (xs ++ ys) ∧ Room w' s' k ∧ Kept s.owns w w' ∧ (∀ b, s'.owns b → s.owns b ∨ (w.heap.size ≤ b ∧ b < w'.heap.size)) ∧ s'.n = s.n + s2.n ∧ (s'.isNil = true → s.n + s2.n = 0) := by
 subst hk hby
 have hs : Src P i.size tx s2.val s2.n ys w := by
  cases s2 with
  | nil =>
    have : ys = [] := List.eq_nil_of_length_eq_zero (by have := R2.len; simpa [Sl.n] using this)
    subst this
    exact Src.ofNil w htx 0
  | mk b o n c => exact Src.ofSlice w htx ⟨b, o, none⟩ n c ys R2.len (fun j u hj => by rw [Addr.add_lit]; exact R2.cell j u hj) h2
 have hml : s.n + s2.n ≤ maxLen := by unfold maxLen; omega
 by_cases hroom : s.n + s2.n ≤ s.c
 · cases s with
   | nil =>
     have hroom : 0 + s2.n ≤ 0 := hroom
     have hs0 : s2.n = 0 := by omega
     have hy : ys = [] := List.eq_nil_of_length_eq_zero (by rw [R2.len, hs0, Nat.zero_mul])
     have hx : xs = [] := List.eq_nil_of_length_eq_zero (by have := R.len; simpa [Sl.n] using this)
     subst hy hx
     refine ⟨.nil, w, ?_, R, Room.nil _ _, Kept.refl _ _, fun b h => h.elim, (by rw [hs0]; rfl), fun _ => (by rw [hs0]; rfl)⟩
     rw [hs0] at hs
     have := run_append_nothing (P := P) w t tx ty e i ht hi none 0 0 (Nat.le_refl _) s2.val hs
     simpa [Sl.val] using this
   | mk b o n c =>
     have hroom : n + s2.n ≤ c := hroom
     have hyl : ys.length = s2.n * i.size := R2.len
     have hfit : ∀ j, j < ys.length → n * i.size + j < c * i.size := fun j hj => by
      have : (n + s2.n) * i.size ≤ c * i.size := Nat.mul_le_mul_right _ hroom
      rw [Nat.add_mul] at this; omega
     have hth := fun j (hj : j < ys.length) => O.there _ (hfit j hj)
     simp only [Sl.b, Sl.o] at hth
     refine ⟨.mk b o (n + s2.n) c, w.setCells b (o + n * i.size) ys, ?_, ?_, ?_, ?_, fun b' h => Or.inl h, rfl, fun h => by cases h⟩
     · exact run_append_room_src (P := P) w t tx ty e i ht hi b o n c s2.val s2.n ys hs hroom (fun j hj => by rw [Nat.add_assoc]; exact (hth j hj).1) (fun j hj => by rw [Nat.add_assoc]; exact (hth j hj).2)
     · refine ⟨by rw [List.length_append, R.len, R2.len, ← Nat.add_mul]; rfl, hroom, fun j u hu => ?_⟩
       have hxl : xs.length = n * i.size := R.len
       simp only [Sl.b, Sl.o]
       by_cases hj : j < xs.length
       · rw [List.getElem?_append_left hj] at hu
         rw [World.cell?_setCells_out b _ _ _ _ (fun _ _ => Or.inl (by show o + j < o + n * i.size; omega))]
         exact R.cell j u hu
       · rw [List.getElem?_append_right (by omega)] at hu
         have hj2 := (List.getElem?_eq_some_iff.1 hu).1
         have := World.cell?_setCells_in b ys (o + n * i.size) w (fun q hq => by rw [Nat.add_assoc]; exact (hth q hq).1) (j - xs.length) hj2
         rw [show o + j = o + n * i.size + (j - xs.length) by omega, this, ← hu, List.getElem?_eq_getElem hj2]
     · refine ⟨O.max, fun j hj => ?_⟩
       obtain ⟨t1, t2⟩ := O.there j hj
       rw [World.frozen?_setCells]
       refine ⟨?_, t2⟩
       by_cases hin : n * i.size ≤ j ∧ j < n * i.size + ys.length
       · have := World.cell?_setCells_in b ys (o + n * i.size) w (fun q hq => by rw [Nat.add_assoc]; exact (hth q hq).1) (j - n * i.size) (by omega)
         simp only [Sl.b, Sl.o]
         rw [show o + j = o + n * i.size + (j - n * i.size) by omega, this]; rfl
       · simp only [Sl.b, Sl.o] at t1 ⊢
         rw [World.cell?_setCells_out b _ _ _ _ (fun _ _ => by show o + j < o + n * i.size ∨ o + n * i.size + ys.length ≤ o + j; omega)]
         exact t1
     · exact Kept.setCells (own := Sl.owns (.mk b o n c)) b (fun _ => rfl) ys _ _ (Kept.refl _ _)
 · have hg : s.c < s.n + s2.n := by omega
   have hbytes : (s.n + s2.n) * i.bytes ≤ 140737488355328 := by
    have : (s.n + s2.n) * i.bytes ≤ 4194304 * 1024 := Nat.mul_le_mul hb hbb
    omega
   have hsv : ∃ ao, s.val = .slice ao s.n s.c ∧ (Builtin.firstCells i.size s.n (.slice ao s.n s.c)).run P w.drew = .ok xs.toArray w.drew := by
    cases s with
    | nil =>
      have hx : xs = [] := List.eq_nil_of_length_eq_zero (by have := R.len; simpa [Sl.n] using this)
      subst hx
      exact ⟨none, rfl, run_firstCells_none w.drew i.size 0 0 0⟩
    | mk b o n c =>
      exact ⟨some ⟨b, o, none⟩, rfl, run_firstCells_some w.drew i.size n ⟨b, o, none⟩ n c xs R.len (fun j u hj => by rw [Addr.add_lit]; exact R.cell j u hj)⟩
   obtain ⟨ao, hv, hfc⟩ := hsv
   have hcap := grownCap_ge w (s.n + s2.n) s.c e
   have hmx := grownCap_le_maxLen w (s.n + s2.n) s.c e hml
   refine ⟨.mk w.heap.size 0 (s.n + s2.n) (grownCap w (s.n + s2.n) s.c e), w.drew.alloc (.cells ((xs ++ ys).toArray ++ Builtin.zeroCells z.cells (grownCap w (s.n + s2.n) s.c e - (s.n + s2.n))) e), ?_, ?_, ?_, ?_, ?_, rfl, fun h => by cases h⟩
   · rw [hv]
     exact run_append_grow_src (P := P) w t tx ty e i z ht hi hz ao s.n s.c xs hfc s2.val s2.n ys hs hg (by unfold maxLen at hml; omega) (growslice_fits hg hbytes)
   all_goals
    have hlen : (xs ++ ys).length = (s.n + s2.n) * i.size := by rw [List.length_append, R.len, R2.len, ← Nat.add_mul]
    have hd : w.heap.size = w.drew.heap.size := rfl
   · refine ⟨hlen, hcap, fun j u hu => ?_⟩
     have hj := (List.getElem?_eq_some_iff.1 hu).1
     simp only [Sl.b, Sl.o, Nat.zero_add]
     rw [zbu, if_pos hd, Array.getElem?_append_left (by simpa using hj), ← hu]; simp
   · refine ⟨hmx, fun j hj => ?_⟩
     have hj : j < grownCap w (s.n + s2.n) s.c e * i.size := hj
     simp only [Sl.b, Sl.o, Nat.zero_add]
     rw [zbu, if_pos hd, zh8, if_pos hd]
     refine ⟨?_, rfl⟩
     rw [Array.getElem?_eq_getElem (by
      rw [Array.size_append, size_zeroCells, hzc, List.size_toArray, hlen, ← Nat.add_mul, Nat.add_sub_cancel' hcap]; exact hj)]
     rfl
   · exact (Kept.refl _ _).drew.alloc _
   · intro b h
     have h : b = w.heap.size := h
     subst h
     right
     rw [zaa]
     exact ⟨Nat.le_refl _, Nat.lt_succ_self _⟩
end Go.Proofs.YthfalocligkamaaGreatDoor
namespace Go.Proofs.YthfalocligkamaaGreatDoor
open Go Go.RowKit Go.Shelf Go.Lib
structure Own (w : World) (s : Sl) (e : TypeId) (k base : Nat) (xs : List Value) : Prop where
 cells : Cells w s k xs
 max : s.c ≤ maxLen
 off : s.o = 0
 blk : ∀ b, s.owns b → base ≤ b ∧ ∃ cur : Array Value, w.heap[b]? = some (.cells cur e (0, 0)) ∧ cur.size = s.c * k
theorem Own.room {w : World} {s : Sl} {e : TypeId} {k base : Nat} {xs : List Value} (h : Own w s e k base xs) : Room w s k := by
 refine ⟨h.max, fun j hj => ?_⟩
 cases s with
 | nil => simp [Sl.c] at hj
 | mk b o n c =>
   obtain ⟨_, cur, e1, e2⟩ := h.blk b rfl
   have ho : o = 0 := h.off
   subst ho
   have hj : j < c * k := hj
   show (w.cell? ⟨b, 0 + j, none⟩).isSome = true ∧ w.frozen? ⟨b, 0 + j, none⟩ = false
   rw [Nat.zero_add]
   refine ⟨?_, ?_⟩
   · simp only [World.cell?, e1]
     rw [Array.getElem?_eq_getElem (by rw [e2]; exact hj)]; rfl
   · simp [World.frozen?, e1]
theorem Own.lt {w : World} {s : Sl} {e : TypeId} {k base : Nat} {xs : List Value} (h : Own w s e k base xs) : ∀ b, s.owns b → base ≤ b ∧ b < w.heap.size := fun b hb => by
 obtain ⟨h1, cur, e1, _⟩ := h.blk b hb
 exact ⟨h1, (Array.getElem?_eq_some_iff.1 e1).1⟩
theorem Own.kept {own : Nat → Prop} {w w' : World} {s : Sl} {e : TypeId} {k base : Nat} {xs : List Value} (h : Own w s e k base xs) (g : Kept own w w') (hn : ∀ b, s.owns b → ¬ own b) : Own w' s e k base xs := by
 refine ⟨⟨h.cells.len, h.cells.cap, fun j u hu => ?_⟩, h.max, h.off, fun b hb => ?_⟩
 · have h1 := h.cells.cell j u hu
   cases s with
   | nil =>
     have := h.cells.len
     simp [Sl.n] at this
     subst this
     simp at hu
   | mk b o n c =>
     rw [g.cell _ _ (zbd h1).1 (hn b rfl)]; exact h1
 · obtain ⟨h1, cur, e1, e2⟩ := h.blk b hb
   exact ⟨h1, cur, by rw [g.block b (Array.getElem?_eq_some_iff.1 e1).1 (hn b hb)]; exact e1, e2⟩
theorem Own.grow {w w' : World} {s : Sl} {e : TypeId} {k base : Nat} {xs : List Value} (h : Own w s e k base xs) (g : Grow w w') : Own w' s e k base xs := h.kept (g.kept (fun _ => False)) (fun _ _ h => h)
theorem Own.mono {w : World} {s : Sl} {e : TypeId} {k base base' : Nat} {xs : List Value} (h : Own w s e k base xs) (g : base' ≤ base) : Own w s e k base' xs :=
 ⟨h.cells, h.max, h.off, fun b hb => ⟨Nat.le_trans g (h.blk b hb).1, (h.blk b hb).2⟩⟩
theorem zk6 {w : World} {base k : Nat} {e : TypeId} {v : Value} {n : Nat} {xs : List Value} (h : w.ownsRow base e k v n xs) : ∃ s : Sl, v = s.val ∧ Own w s e k base xs ∧ s.n = n := by
 obtain ⟨hl, ⟨rfl, rfl⟩ | ⟨g, cap, cur, rfl, hb, hg, hn, hm, hs, ht⟩⟩ := h
 · have hx : xs = [] := List.eq_nil_of_length_eq_zero (by simpa using hl)
   subst hx
   exact ⟨.nil, rfl, ⟨⟨by simp [Sl.n], Nat.le_refl _, fun j u hu => by simp at hu⟩, Nat.zero_le _, rfl, fun b h => h.elim⟩, rfl⟩
 · refine ⟨.mk g 0 n cap, rfl, ⟨⟨hl, hn, fun j u hu => ?_⟩, hm, rfl, fun b h => ?_⟩, rfl⟩
   · have hj := (List.getElem?_eq_some_iff.1 hu).1
     have h1 : xs[j]? = cur[j]? := by
      rw [← ht, List.getElem?_take_of_lt (by omega), Array.getElem?_toList]
     simp only [Sl.b, Sl.o, Nat.zero_add]
     simp only [World.cell?, hg]
     rw [← h1]; exact hu
   · have h : b = g := h
     subst h
     exact ⟨hb, cur, hg, hs⟩
theorem zdi (w : World) (s : Sl) (l : List Int) (R : Ints w s l) (hb : l.length ≤ 1048576) :
 Calls Tryz.prog 40 #[s.val] w fun e w' => ∃ s' : Sl, e = .returned s'.val ∧ Own w' s' 3 1 w.heap.size (l.map I) ∧ s'.isNil = s.isNil ∧ Grow w w' := by
 cases s with
 | nil =>
   have hl : l = [] := List.eq_nil_of_length_eq_zero R.len.symm
   subst hl
   refine (AnyE.slices_Clone_nil Tryz.cloneInts 0 0 w).mono ?_
   rintro e w' ⟨rfl, rfl⟩
   exact ⟨.nil, rfl, ⟨⟨by simp [Sl.n], Nat.le_refl _, fun j u hu => by simp at hu⟩, Nat.zero_le _, rfl, fun b h => h.elim⟩, rfl, Grow.refl _⟩
 | mk b o n c =>
   have hn : n = l.length := R.len
   subst hn
   refine (AnyE.slices_Clone Tryz.cloneInts Tryz.t3 (.int .i64 0) 1 8 (by kernel_rfl) (by kernel_rfl) (by kernel_rfl) (by kernel_rfl) rfl (by omega) (fun w => by kernel_rfl) b o l.length c (l.map I) w (by rw [List.length_map, Nat.mul_one]) (by unfold maxLen; omega) (by omega) (fun j u hu => ?_) (zau l)).mono ?_
   · have := R.cells.cell j u hu
     simpa [Sl.b, Sl.o] using this
   · rintro e w' ⟨v', rfl, hown, hne, hb⟩
     obtain ⟨s', rfl, hI, _⟩ := zk6 hown
     refine ⟨s', rfl, hI, ?_, Grow.of_below hb⟩
     cases s' with
     | nil => exact absurd rfl hne
     | mk => rfl
end Go.Proofs.YthfalocligkamaaGreatDoor
namespace Go.Proofs.YthfalocligkamaaGreatDoor
open Go Go.RowKit
def hoA (V : SV) (num : Nat → Int) (rest : Array Value) : Array Value := stA V num ++ rest
@[go_sem] theorem zcr (V : SV) (num : Nat → Int) (rest : Array Value) : (hoA V num rest).size = 37 + rest.size := by simp [hoA, zcm]
theorem zgb (V : SV) (num : Nat → Int) (rest : Array Value) (i : Nat) (h : i < 37) : (hoA V num rest)[i]? = (stA V num)[i]? := by
 unfold hoA; rw [Array.getElem?_append_left (by rw [zcm]; exact h)]
@[go_sem] theorem yg4 (V : SV) (num : Nat → Int) (rest : Array Value) : sub (hoA V num rest) 0 37 = stA V num := by
 unfold sub hoA
 apply Array.ext_getElem?
 intro i
 rw [Array.getElem?_extract]
 by_cases h : i < 37
 · rw [if_pos (by rw [Array.size_append, zcm]; omega), Nat.zero_add, Array.getElem?_append_left (by rw [zcm]; exact h)]
 · rw [if_neg (by omega), Array.getElem?_eq_none (by rw [zcm]; omega)]
@[go_sem] theorem z19 (V : SV) (num : Nat → Int) (rest : Array Value) : (hoA V num rest)[0]? = some V.objs.val := by rw [zgb _ _ _ _ (by omega), zra]
@[go_sem] theorem zcq (V : SV) (num : Nat → Int) (rest : Array Value) (z : Nat) (h : z < 11) : (hoA V num rest)[1 + z]? = some (V.list z).val := by rw [zgb _ _ _ _ (by omega), zcd _ _ _ h]
@[go_sem] theorem zbm (V : SV) (num : Nat → Int) (rest : Array Value) (i : Nat) (h : i < 25) : (hoA V num rest)[12 + i]? = some (I (num i)) := by rw [zgb _ _ _ _ (by omega), za7 _ _ _ h]
theorem zei (V : SV) (num : Nat → Int) (rest : Array Value) (i : Nat) : (hoA V num rest)[37 + i]? = rest[i]? := by
 unfold hoA; rw [Array.getElem?_append_right (by rw [zcm]; omega), zcm]; congr 1; omega
theorem zo7 (V V' : SV) (num num' : Nat → Int) (rest : Array Value) (i : Nat) (v : Value) (h : i < 37) (e : (stA V num).setIfInBounds i v = stA V' num') : (hoA V num rest).setIfInBounds i v = hoA V' num' rest := by
 unfold hoA; rw [Array.setIfInBounds_append_left (by rw [zcm]; exact h), e]
@[go_sem] theorem zo8 (V : SV) (num : Nat → Int) (rest : Array Value) (s : Sl) : (hoA V num rest).setIfInBounds 0 s.val = hoA { V with objs := s } num rest := zo7 _ _ _ _ _ _ _ (by omega) (zp3 V num s)
@[go_sem] theorem zbw (V : SV) (num : Nat → Int) (rest : Array Value) (z : Nat) (s : Sl) (hz : z < 11) : (hoA V num rest).setIfInBounds (1 + z) s.val = hoA { V with list := upd V.list z s } num rest := zo7 _ _ _ _ _ _ _ (by omega) (zbq V num z s hz)
@[go_sem] theorem zt7 (V : SV) (num : Nat → Int) (f : Nat) (x : Int) (hf : f < 25) : (stA V num).setIfInBounds (12 + f) (.int .i64 x) = stA V (upd num f x) := by
 apply Array.ext_getElem?
 intro i
 rw [Array.getElem?_setIfInBounds]
 by_cases h : 12 + f = i
 · subst h
   rw [if_pos rfl, if_pos (by simp [stA]; omega)]
   simp [stA, show 12 + f < 37 by omega, upd]
   intro h2; omega
 · rw [if_neg h]
   simp only [stA, List.getElem?_toArray, List.getElem?_map]
   by_cases h2 : i < 37
   · rw [List.getElem?_eq_getElem (by simpa using h2)]
     simp only [List.getElem_range, Option.map_some]
     congr 1
     by_cases h0 : i = 0
     · simp [h0]
     · by_cases h12 : i < 12
       · simp [h0, h12]
       · simp [h0, h12, upd, show ¬ i - 12 = f by omega]
   · simp [h2]
@[go_sem] theorem zkv (V : SV) (num : Nat → Int) (rest : Array Value) (f : Nat) (x : Int) (hf : f < 25) : (hoA V num rest).setIfInBounds (12 + f) (.int .i64 x) = hoA V (upd num f x) rest := zo7 _ _ _ _ _ _ _ (by omega) (zt7 V num f x hf)
theorem zcc (V : SV) (num : Nat → Int) (rest : Array Value) (i : Nat) (v : Value) : (hoA V num rest).setIfInBounds (37 + i) v = hoA V num (rest.setIfInBounds i v) := by
 unfold hoA
 rw [Array.setIfInBounds_append_right (by rw [zcm]; omega), zcm, show 37 + i - 37 = i by omega]
@[go_sem] theorem z8n (V : SV) (num : Nat → Int) : (stA V num)[1]? = some (V.list 0).val := zcd V num 0 (by omega)
@[go_sem] theorem z67 (V : SV) (num : Nat → Int) (rest : Array Value) : (hoA V num rest)[1]? = some (V.list 0).val := zcq V num rest 0 (by omega)
@[go_sem] theorem yfv (V : SV) (num : Nat → Int) (s : Sl) : (stA V num).setIfInBounds 1 s.val = stA { V with list := upd V.list 0 s } num := zbq V num 0 s (by omega)
@[go_sem] theorem yen (V : SV) (num : Nat → Int) (rest : Array Value) (s : Sl) : (hoA V num rest).setIfInBounds 1 s.val = hoA { V with list := upd V.list 0 s } num rest := zbw V num rest 0 s (by omega)
@[go_sem] theorem z8o (V : SV) (num : Nat → Int) : (stA V num)[2]? = some (V.list 1).val := zcd V num 1 (by omega)
@[go_sem] theorem z68 (V : SV) (num : Nat → Int) (rest : Array Value) : (hoA V num rest)[2]? = some (V.list 1).val := zcq V num rest 1 (by omega)
@[go_sem] theorem yfw (V : SV) (num : Nat → Int) (s : Sl) : (stA V num).setIfInBounds 2 s.val = stA { V with list := upd V.list 1 s } num := zbq V num 1 s (by omega)
@[go_sem] theorem yeo (V : SV) (num : Nat → Int) (rest : Array Value) (s : Sl) : (hoA V num rest).setIfInBounds 2 s.val = hoA { V with list := upd V.list 1 s } num rest := zbw V num rest 1 s (by omega)
@[go_sem] theorem z8p (V : SV) (num : Nat → Int) : (stA V num)[3]? = some (V.list 2).val := zcd V num 2 (by omega)
@[go_sem] theorem z69 (V : SV) (num : Nat → Int) (rest : Array Value) : (hoA V num rest)[3]? = some (V.list 2).val := zcq V num rest 2 (by omega)
@[go_sem] theorem yfx (V : SV) (num : Nat → Int) (s : Sl) : (stA V num).setIfInBounds 3 s.val = stA { V with list := upd V.list 2 s } num := zbq V num 2 s (by omega)
@[go_sem] theorem yep (V : SV) (num : Nat → Int) (rest : Array Value) (s : Sl) : (hoA V num rest).setIfInBounds 3 s.val = hoA { V with list := upd V.list 2 s } num rest := zbw V num rest 2 s (by omega)
@[go_sem] theorem z8q (V : SV) (num : Nat → Int) : (stA V num)[4]? = some (V.list 3).val := zcd V num 3 (by omega)
@[go_sem] theorem z7a (V : SV) (num : Nat → Int) (rest : Array Value) : (hoA V num rest)[4]? = some (V.list 3).val := zcq V num rest 3 (by omega)
@[go_sem] theorem yfy (V : SV) (num : Nat → Int) (s : Sl) : (stA V num).setIfInBounds 4 s.val = stA { V with list := upd V.list 3 s } num := zbq V num 3 s (by omega)
@[go_sem] theorem yeq (V : SV) (num : Nat → Int) (rest : Array Value) (s : Sl) : (hoA V num rest).setIfInBounds 4 s.val = hoA { V with list := upd V.list 3 s } num rest := zbw V num rest 3 s (by omega)
@[go_sem] theorem z8r (V : SV) (num : Nat → Int) : (stA V num)[5]? = some (V.list 4).val := zcd V num 4 (by omega)
@[go_sem] theorem z7b (V : SV) (num : Nat → Int) (rest : Array Value) : (hoA V num rest)[5]? = some (V.list 4).val := zcq V num rest 4 (by omega)
@[go_sem] theorem yfz (V : SV) (num : Nat → Int) (s : Sl) : (stA V num).setIfInBounds 5 s.val = stA { V with list := upd V.list 4 s } num := zbq V num 4 s (by omega)
@[go_sem] theorem yer (V : SV) (num : Nat → Int) (rest : Array Value) (s : Sl) : (hoA V num rest).setIfInBounds 5 s.val = hoA { V with list := upd V.list 4 s } num rest := zbw V num rest 4 s (by omega)
@[go_sem] theorem z8s (V : SV) (num : Nat → Int) : (stA V num)[6]? = some (V.list 5).val := zcd V num 5 (by omega)
@[go_sem] theorem z7c (V : SV) (num : Nat → Int) (rest : Array Value) : (hoA V num rest)[6]? = some (V.list 5).val := zcq V num rest 5 (by omega)
@[go_sem] theorem yf0 (V : SV) (num : Nat → Int) (s : Sl) : (stA V num).setIfInBounds 6 s.val = stA { V with list := upd V.list 5 s } num := zbq V num 5 s (by omega)
@[go_sem] theorem yes (V : SV) (num : Nat → Int) (rest : Array Value) (s : Sl) : (hoA V num rest).setIfInBounds 6 s.val = hoA { V with list := upd V.list 5 s } num rest := zbw V num rest 5 s (by omega)
@[go_sem] theorem z8t (V : SV) (num : Nat → Int) : (stA V num)[7]? = some (V.list 6).val := zcd V num 6 (by omega)
@[go_sem] theorem z7d (V : SV) (num : Nat → Int) (rest : Array Value) : (hoA V num rest)[7]? = some (V.list 6).val := zcq V num rest 6 (by omega)
@[go_sem] theorem yf1 (V : SV) (num : Nat → Int) (s : Sl) : (stA V num).setIfInBounds 7 s.val = stA { V with list := upd V.list 6 s } num := zbq V num 6 s (by omega)
@[go_sem] theorem yet (V : SV) (num : Nat → Int) (rest : Array Value) (s : Sl) : (hoA V num rest).setIfInBounds 7 s.val = hoA { V with list := upd V.list 6 s } num rest := zbw V num rest 6 s (by omega)
@[go_sem] theorem z8u (V : SV) (num : Nat → Int) : (stA V num)[8]? = some (V.list 7).val := zcd V num 7 (by omega)
@[go_sem] theorem z7e (V : SV) (num : Nat → Int) (rest : Array Value) : (hoA V num rest)[8]? = some (V.list 7).val := zcq V num rest 7 (by omega)
@[go_sem] theorem yf2 (V : SV) (num : Nat → Int) (s : Sl) : (stA V num).setIfInBounds 8 s.val = stA { V with list := upd V.list 7 s } num := zbq V num 7 s (by omega)
@[go_sem] theorem yeu (V : SV) (num : Nat → Int) (rest : Array Value) (s : Sl) : (hoA V num rest).setIfInBounds 8 s.val = hoA { V with list := upd V.list 7 s } num rest := zbw V num rest 7 s (by omega)
@[go_sem] theorem z8v (V : SV) (num : Nat → Int) : (stA V num)[9]? = some (V.list 8).val := zcd V num 8 (by omega)
@[go_sem] theorem z7f (V : SV) (num : Nat → Int) (rest : Array Value) : (hoA V num rest)[9]? = some (V.list 8).val := zcq V num rest 8 (by omega)
@[go_sem] theorem yf3 (V : SV) (num : Nat → Int) (s : Sl) : (stA V num).setIfInBounds 9 s.val = stA { V with list := upd V.list 8 s } num := zbq V num 8 s (by omega)
@[go_sem] theorem yev (V : SV) (num : Nat → Int) (rest : Array Value) (s : Sl) : (hoA V num rest).setIfInBounds 9 s.val = hoA { V with list := upd V.list 8 s } num rest := zbw V num rest 8 s (by omega)
@[go_sem] theorem z3j (V : SV) (num : Nat → Int) : (stA V num)[10]? = some (V.list 9).val := zcd V num 9 (by omega)
@[go_sem] theorem z1c (V : SV) (num : Nat → Int) (rest : Array Value) : (hoA V num rest)[10]? = some (V.list 9).val := zcq V num rest 9 (by omega)
@[go_sem] theorem ydq (V : SV) (num : Nat → Int) (s : Sl) : (stA V num).setIfInBounds 10 s.val = stA { V with list := upd V.list 9 s } num := zbq V num 9 s (by omega)
@[go_sem] theorem ybz (V : SV) (num : Nat → Int) (rest : Array Value) (s : Sl) : (hoA V num rest).setIfInBounds 10 s.val = hoA { V with list := upd V.list 9 s } num rest := zbw V num rest 9 s (by omega)
@[go_sem] theorem z3k (V : SV) (num : Nat → Int) : (stA V num)[11]? = some (V.list 10).val := zcd V num 10 (by omega)
@[go_sem] theorem z1d (V : SV) (num : Nat → Int) (rest : Array Value) : (hoA V num rest)[11]? = some (V.list 10).val := zcq V num rest 10 (by omega)
@[go_sem] theorem ydr (V : SV) (num : Nat → Int) (s : Sl) : (stA V num).setIfInBounds 11 s.val = stA { V with list := upd V.list 10 s } num := zbq V num 10 s (by omega)
@[go_sem] theorem zws (V : SV) (num : Nat → Int) (rest : Array Value) (s : Sl) : (hoA V num rest).setIfInBounds 11 s.val = hoA { V with list := upd V.list 10 s } num rest := zbw V num rest 10 s (by omega)
@[go_sem] theorem z3l (V : SV) (num : Nat → Int) : (stA V num)[12]? = some (I (num 0)) := za7 V num 0 (by omega)
@[go_sem] theorem z1e (V : SV) (num : Nat → Int) (rest : Array Value) : (hoA V num rest)[12]? = some (I (num 0)) := zbm V num rest 0 (by omega)
@[go_sem] theorem z3m (V : SV) (num : Nat → Int) : (stA V num)[13]? = some (I (num 1)) := za7 V num 1 (by omega)
@[go_sem] theorem z1f (V : SV) (num : Nat → Int) (rest : Array Value) : (hoA V num rest)[13]? = some (I (num 1)) := zbm V num rest 1 (by omega)
@[go_sem] theorem z3n (V : SV) (num : Nat → Int) : (stA V num)[14]? = some (I (num 2)) := za7 V num 2 (by omega)
@[go_sem] theorem z1g (V : SV) (num : Nat → Int) (rest : Array Value) : (hoA V num rest)[14]? = some (I (num 2)) := zbm V num rest 2 (by omega)
@[go_sem] theorem z3o (V : SV) (num : Nat → Int) : (stA V num)[15]? = some (I (num 3)) := za7 V num 3 (by omega)
@[go_sem] theorem z1h (V : SV) (num : Nat → Int) (rest : Array Value) : (hoA V num rest)[15]? = some (I (num 3)) := zbm V num rest 3 (by omega)
@[go_sem] theorem z3p (V : SV) (num : Nat → Int) : (stA V num)[16]? = some (I (num 4)) := za7 V num 4 (by omega)
@[go_sem] theorem z1i (V : SV) (num : Nat → Int) (rest : Array Value) : (hoA V num rest)[16]? = some (I (num 4)) := zbm V num rest 4 (by omega)
@[go_sem] theorem z3q (V : SV) (num : Nat → Int) : (stA V num)[17]? = some (I (num 5)) := za7 V num 5 (by omega)
@[go_sem] theorem z1j (V : SV) (num : Nat → Int) (rest : Array Value) : (hoA V num rest)[17]? = some (I (num 5)) := zbm V num rest 5 (by omega)
@[go_sem] theorem z3r (V : SV) (num : Nat → Int) : (stA V num)[18]? = some (I (num 6)) := za7 V num 6 (by omega)
@[go_sem] theorem z1k (V : SV) (num : Nat → Int) (rest : Array Value) : (hoA V num rest)[18]? = some (I (num 6)) := zbm V num rest 6 (by omega)
@[go_sem] theorem z3s (V : SV) (num : Nat → Int) : (stA V num)[19]? = some (I (num 7)) := za7 V num 7 (by omega)
@[go_sem] theorem z1l (V : SV) (num : Nat → Int) (rest : Array Value) : (hoA V num rest)[19]? = some (I (num 7)) := zbm V num rest 7 (by omega)
@[go_sem] theorem z3t (V : SV) (num : Nat → Int) : (stA V num)[20]? = some (I (num 8)) := za7 V num 8 (by omega)
@[go_sem] theorem z1m (V : SV) (num : Nat → Int) (rest : Array Value) : (hoA V num rest)[20]? = some (I (num 8)) := zbm V num rest 8 (by omega)
@[go_sem] theorem z3u (V : SV) (num : Nat → Int) : (stA V num)[21]? = some (I (num 9)) := za7 V num 9 (by omega)
@[go_sem] theorem z1n (V : SV) (num : Nat → Int) (rest : Array Value) : (hoA V num rest)[21]? = some (I (num 9)) := zbm V num rest 9 (by omega)
@[go_sem] theorem z3v (V : SV) (num : Nat → Int) : (stA V num)[22]? = some (I (num 10)) := za7 V num 10 (by omega)
@[go_sem] theorem z1o (V : SV) (num : Nat → Int) (rest : Array Value) : (hoA V num rest)[22]? = some (I (num 10)) := zbm V num rest 10 (by omega)
@[go_sem] theorem z3w (V : SV) (num : Nat → Int) : (stA V num)[23]? = some (I (num 11)) := za7 V num 11 (by omega)
@[go_sem] theorem z1p (V : SV) (num : Nat → Int) (rest : Array Value) : (hoA V num rest)[23]? = some (I (num 11)) := zbm V num rest 11 (by omega)
@[go_sem] theorem z3x (V : SV) (num : Nat → Int) : (stA V num)[24]? = some (I (num 12)) := za7 V num 12 (by omega)
@[go_sem] theorem z1q (V : SV) (num : Nat → Int) (rest : Array Value) : (hoA V num rest)[24]? = some (I (num 12)) := zbm V num rest 12 (by omega)
@[go_sem] theorem z3y (V : SV) (num : Nat → Int) : (stA V num)[25]? = some (I (num 13)) := za7 V num 13 (by omega)
@[go_sem] theorem z1r (V : SV) (num : Nat → Int) (rest : Array Value) : (hoA V num rest)[25]? = some (I (num 13)) := zbm V num rest 13 (by omega)
@[go_sem] theorem z3z (V : SV) (num : Nat → Int) : (stA V num)[26]? = some (I (num 14)) := za7 V num 14 (by omega)
@[go_sem] theorem z1s (V : SV) (num : Nat → Int) (rest : Array Value) : (hoA V num rest)[26]? = some (I (num 14)) := zbm V num rest 14 (by omega)
@[go_sem] theorem z30 (V : SV) (num : Nat → Int) : (stA V num)[27]? = some (I (num 15)) := za7 V num 15 (by omega)
@[go_sem] theorem z1t (V : SV) (num : Nat → Int) (rest : Array Value) : (hoA V num rest)[27]? = some (I (num 15)) := zbm V num rest 15 (by omega)
@[go_sem] theorem z31 (V : SV) (num : Nat → Int) : (stA V num)[28]? = some (I (num 16)) := za7 V num 16 (by omega)
@[go_sem] theorem z1u (V : SV) (num : Nat → Int) (rest : Array Value) : (hoA V num rest)[28]? = some (I (num 16)) := zbm V num rest 16 (by omega)
@[go_sem] theorem z32 (V : SV) (num : Nat → Int) : (stA V num)[29]? = some (I (num 17)) := za7 V num 17 (by omega)
@[go_sem] theorem z1v (V : SV) (num : Nat → Int) (rest : Array Value) : (hoA V num rest)[29]? = some (I (num 17)) := zbm V num rest 17 (by omega)
@[go_sem] theorem z33 (V : SV) (num : Nat → Int) : (stA V num)[30]? = some (I (num 18)) := za7 V num 18 (by omega)
@[go_sem] theorem z1w (V : SV) (num : Nat → Int) (rest : Array Value) : (hoA V num rest)[30]? = some (I (num 18)) := zbm V num rest 18 (by omega)
@[go_sem] theorem z34 (V : SV) (num : Nat → Int) : (stA V num)[31]? = some (I (num 19)) := za7 V num 19 (by omega)
@[go_sem] theorem z1x (V : SV) (num : Nat → Int) (rest : Array Value) : (hoA V num rest)[31]? = some (I (num 19)) := zbm V num rest 19 (by omega)
@[go_sem] theorem z35 (V : SV) (num : Nat → Int) : (stA V num)[32]? = some (I (num 20)) := za7 V num 20 (by omega)
@[go_sem] theorem z1y (V : SV) (num : Nat → Int) (rest : Array Value) : (hoA V num rest)[32]? = some (I (num 20)) := zbm V num rest 20 (by omega)
@[go_sem] theorem z36 (V : SV) (num : Nat → Int) : (stA V num)[33]? = some (I (num 21)) := za7 V num 21 (by omega)
@[go_sem] theorem z1z (V : SV) (num : Nat → Int) (rest : Array Value) : (hoA V num rest)[33]? = some (I (num 21)) := zbm V num rest 21 (by omega)
@[go_sem] theorem z37 (V : SV) (num : Nat → Int) : (stA V num)[34]? = some (I (num 22)) := za7 V num 22 (by omega)
@[go_sem] theorem z10 (V : SV) (num : Nat → Int) (rest : Array Value) : (hoA V num rest)[34]? = some (I (num 22)) := zbm V num rest 22 (by omega)
@[go_sem] theorem z38 (V : SV) (num : Nat → Int) : (stA V num)[35]? = some (I (num 23)) := za7 V num 23 (by omega)
@[go_sem] theorem z11 (V : SV) (num : Nat → Int) (rest : Array Value) : (hoA V num rest)[35]? = some (I (num 23)) := zbm V num rest 23 (by omega)
@[go_sem] theorem z39 (V : SV) (num : Nat → Int) : (stA V num)[36]? = some (I (num 24)) := za7 V num 24 (by omega)
@[go_sem] theorem z12 (V : SV) (num : Nat → Int) (rest : Array Value) : (hoA V num rest)[36]? = some (I (num 24)) := zbm V num rest 24 (by omega)
@[go_sem] theorem z13 (V : SV) (num : Nat → Int) (rest : Array Value) : (hoA V num rest)[37]? = rest[0]? := zei V num rest 0
@[go_sem] theorem yb0 (V : SV) (num : Nat → Int) (rest : Array Value) (v : Value) : (hoA V num rest).setIfInBounds 37 v = hoA V num (rest.setIfInBounds 0 v) := zcc V num rest 0 v
@[go_sem] theorem z14 (V : SV) (num : Nat → Int) (rest : Array Value) : (hoA V num rest)[38]? = rest[1]? := zei V num rest 1
@[go_sem] theorem yb1 (V : SV) (num : Nat → Int) (rest : Array Value) (v : Value) : (hoA V num rest).setIfInBounds 38 v = hoA V num (rest.setIfInBounds 1 v) := zcc V num rest 1 v
@[go_sem] theorem z15 (V : SV) (num : Nat → Int) (rest : Array Value) : (hoA V num rest)[39]? = rest[2]? := zei V num rest 2
@[go_sem] theorem yb2 (V : SV) (num : Nat → Int) (rest : Array Value) (v : Value) : (hoA V num rest).setIfInBounds 39 v = hoA V num (rest.setIfInBounds 2 v) := zcc V num rest 2 v
@[go_sem] theorem z16 (V : SV) (num : Nat → Int) (rest : Array Value) : (hoA V num rest)[40]? = rest[3]? := zei V num rest 3
@[go_sem] theorem yb3 (V : SV) (num : Nat → Int) (rest : Array Value) (v : Value) : (hoA V num rest).setIfInBounds 40 v = hoA V num (rest.setIfInBounds 3 v) := zcc V num rest 3 v
@[go_sem] theorem z17 (V : SV) (num : Nat → Int) (rest : Array Value) : (hoA V num rest)[41]? = rest[4]? := zei V num rest 4
@[go_sem] theorem yb4 (V : SV) (num : Nat → Int) (rest : Array Value) (v : Value) : (hoA V num rest).setIfInBounds 41 v = hoA V num (rest.setIfInBounds 4 v) := zcc V num rest 4 v
@[go_sem] theorem z18 (V : SV) (num : Nat → Int) (rest : Array Value) : (hoA V num rest)[42]? = rest[5]? := zei V num rest 5
@[go_sem] theorem yb5 (V : SV) (num : Nat → Int) (rest : Array Value) (v : Value) : (hoA V num rest).setIfInBounds 42 v = hoA V num (rest.setIfInBounds 5 v) := zcc V num rest 5 v
@[go_sem] theorem yby (V : SV) (num : Nat → Int) (rest : Array Value) (h : 0 < (hoA V num rest).size) : (hoA V num rest)[0]'h = V.objs.val := by
 have := z19 V num rest
 rw [Array.getElem?_eq_getElem h] at this
 exact Option.some.inj this
@[go_sem] theorem ybx (V : SV) (num : Nat → Int) (rest : Array Value) (z : Nat) (h : 1 + z < (hoA V num rest).size) (hz : z < 11) : (hoA V num rest)[1 + z]'h = (V.list z).val := by
 have := zcq V num rest z hz
 rw [Array.getElem?_eq_getElem h] at this
 exact Option.some.inj this
@[go_sem] theorem yem (V : SV) (num : Nat → Int) (rest : Array Value) (f : Nat) (h : 12 + f < (hoA V num rest).size) (hf : f < 25) : (hoA V num rest)[12 + f]'h = I (num f) := by
 have := zbm V num rest f hf
 rw [Array.getElem?_eq_getElem h] at this
 exact Option.some.inj this
@[go_sem] theorem yed (V : SV) (num : Nat → Int) (rest : Array Value) (h : 1 < (hoA V num rest).size) : (hoA V num rest)[1]'h = (V.list 0).val := by
 have := z67 V num rest
 rw [Array.getElem?_eq_getElem h] at this
 exact Option.some.inj this
@[go_sem] theorem yfl (V : SV) (num : Nat → Int) (h : 1 < (stA V num).size) : (stA V num)[1]'h = (V.list 0).val := by
 have := z8n V num
 rw [Array.getElem?_eq_getElem h] at this
 exact Option.some.inj this
@[go_sem] theorem yee (V : SV) (num : Nat → Int) (rest : Array Value) (h : 2 < (hoA V num rest).size) : (hoA V num rest)[2]'h = (V.list 1).val := by
 have := z68 V num rest
 rw [Array.getElem?_eq_getElem h] at this
 exact Option.some.inj this
@[go_sem] theorem yfm (V : SV) (num : Nat → Int) (h : 2 < (stA V num).size) : (stA V num)[2]'h = (V.list 1).val := by
 have := z8o V num
 rw [Array.getElem?_eq_getElem h] at this
 exact Option.some.inj this
@[go_sem] theorem yef (V : SV) (num : Nat → Int) (rest : Array Value) (h : 3 < (hoA V num rest).size) : (hoA V num rest)[3]'h = (V.list 2).val := by
 have := z69 V num rest
 rw [Array.getElem?_eq_getElem h] at this
 exact Option.some.inj this
@[go_sem] theorem yfn (V : SV) (num : Nat → Int) (h : 3 < (stA V num).size) : (stA V num)[3]'h = (V.list 2).val := by
 have := z8p V num
 rw [Array.getElem?_eq_getElem h] at this
 exact Option.some.inj this
@[go_sem] theorem yeg (V : SV) (num : Nat → Int) (rest : Array Value) (h : 4 < (hoA V num rest).size) : (hoA V num rest)[4]'h = (V.list 3).val := by
 have := z7a V num rest
 rw [Array.getElem?_eq_getElem h] at this
 exact Option.some.inj this
@[go_sem] theorem yfo (V : SV) (num : Nat → Int) (h : 4 < (stA V num).size) : (stA V num)[4]'h = (V.list 3).val := by
 have := z8q V num
 rw [Array.getElem?_eq_getElem h] at this
 exact Option.some.inj this
@[go_sem] theorem yeh (V : SV) (num : Nat → Int) (rest : Array Value) (h : 5 < (hoA V num rest).size) : (hoA V num rest)[5]'h = (V.list 4).val := by
 have := z7b V num rest
 rw [Array.getElem?_eq_getElem h] at this
 exact Option.some.inj this
@[go_sem] theorem yfp (V : SV) (num : Nat → Int) (h : 5 < (stA V num).size) : (stA V num)[5]'h = (V.list 4).val := by
 have := z8r V num
 rw [Array.getElem?_eq_getElem h] at this
 exact Option.some.inj this
@[go_sem] theorem yei (V : SV) (num : Nat → Int) (rest : Array Value) (h : 6 < (hoA V num rest).size) : (hoA V num rest)[6]'h = (V.list 5).val := by
 have := z7c V num rest
 rw [Array.getElem?_eq_getElem h] at this
 exact Option.some.inj this
@[go_sem] theorem yfq (V : SV) (num : Nat → Int) (h : 6 < (stA V num).size) : (stA V num)[6]'h = (V.list 5).val := by
 have := z8s V num
 rw [Array.getElem?_eq_getElem h] at this
 exact Option.some.inj this
@[go_sem] theorem yej (V : SV) (num : Nat → Int) (rest : Array Value) (h : 7 < (hoA V num rest).size) : (hoA V num rest)[7]'h = (V.list 6).val := by
 have := z7d V num rest
 rw [Array.getElem?_eq_getElem h] at this
 exact Option.some.inj this
@[go_sem] theorem yfr (V : SV) (num : Nat → Int) (h : 7 < (stA V num).size) : (stA V num)[7]'h = (V.list 6).val := by
 have := z8t V num
 rw [Array.getElem?_eq_getElem h] at this
 exact Option.some.inj this
@[go_sem] theorem yek (V : SV) (num : Nat → Int) (rest : Array Value) (h : 8 < (hoA V num rest).size) : (hoA V num rest)[8]'h = (V.list 7).val := by
 have := z7e V num rest
 rw [Array.getElem?_eq_getElem h] at this
 exact Option.some.inj this
@[go_sem] theorem yfs (V : SV) (num : Nat → Int) (h : 8 < (stA V num).size) : (stA V num)[8]'h = (V.list 7).val := by
 have := z8u V num
 rw [Array.getElem?_eq_getElem h] at this
 exact Option.some.inj this
@[go_sem] theorem yel (V : SV) (num : Nat → Int) (rest : Array Value) (h : 9 < (hoA V num rest).size) : (hoA V num rest)[9]'h = (V.list 8).val := by
 have := z7f V num rest
 rw [Array.getElem?_eq_getElem h] at this
 exact Option.some.inj this
@[go_sem] theorem yft (V : SV) (num : Nat → Int) (h : 9 < (stA V num).size) : (stA V num)[9]'h = (V.list 8).val := by
 have := z8v V num
 rw [Array.getElem?_eq_getElem h] at this
 exact Option.some.inj this
@[go_sem] theorem ya0 (V : SV) (num : Nat → Int) (rest : Array Value) (h : 10 < (hoA V num rest).size) : (hoA V num rest)[10]'h = (V.list 9).val := by
 have := z1c V num rest
 rw [Array.getElem?_eq_getElem h] at this
 exact Option.some.inj this
@[go_sem] theorem ycy (V : SV) (num : Nat → Int) (h : 10 < (stA V num).size) : (stA V num)[10]'h = (V.list 9).val := by
 have := z3j V num
 rw [Array.getElem?_eq_getElem h] at this
 exact Option.some.inj this
@[go_sem] theorem ya1 (V : SV) (num : Nat → Int) (rest : Array Value) (h : 11 < (hoA V num rest).size) : (hoA V num rest)[11]'h = (V.list 10).val := by
 have := z1d V num rest
 rw [Array.getElem?_eq_getElem h] at this
 exact Option.some.inj this
@[go_sem] theorem ycz (V : SV) (num : Nat → Int) (h : 11 < (stA V num).size) : (stA V num)[11]'h = (V.list 10).val := by
 have := z3k V num
 rw [Array.getElem?_eq_getElem h] at this
 exact Option.some.inj this
@[go_sem] theorem ya2 (V : SV) (num : Nat → Int) (rest : Array Value) (h : 12 < (hoA V num rest).size) : (hoA V num rest)[12]'h = I (num 0) := by
 have := z1e V num rest
 rw [Array.getElem?_eq_getElem h] at this
 exact Option.some.inj this
@[go_sem] theorem yc0 (V : SV) (num : Nat → Int) (h : 12 < (stA V num).size) : (stA V num)[12]'h = I (num 0) := by
 have := z3l V num
 rw [Array.getElem?_eq_getElem h] at this
 exact Option.some.inj this
@[go_sem] theorem ya3 (V : SV) (num : Nat → Int) (rest : Array Value) (h : 13 < (hoA V num rest).size) : (hoA V num rest)[13]'h = I (num 1) := by
 have := z1f V num rest
 rw [Array.getElem?_eq_getElem h] at this
 exact Option.some.inj this
@[go_sem] theorem yc1 (V : SV) (num : Nat → Int) (h : 13 < (stA V num).size) : (stA V num)[13]'h = I (num 1) := by
 have := z3m V num
 rw [Array.getElem?_eq_getElem h] at this
 exact Option.some.inj this
@[go_sem] theorem ya4 (V : SV) (num : Nat → Int) (rest : Array Value) (h : 14 < (hoA V num rest).size) : (hoA V num rest)[14]'h = I (num 2) := by
 have := z1g V num rest
 rw [Array.getElem?_eq_getElem h] at this
 exact Option.some.inj this
@[go_sem] theorem yc2 (V : SV) (num : Nat → Int) (h : 14 < (stA V num).size) : (stA V num)[14]'h = I (num 2) := by
 have := z3n V num
 rw [Array.getElem?_eq_getElem h] at this
 exact Option.some.inj this
@[go_sem] theorem ya5 (V : SV) (num : Nat → Int) (rest : Array Value) (h : 15 < (hoA V num rest).size) : (hoA V num rest)[15]'h = I (num 3) := by
 have := z1h V num rest
 rw [Array.getElem?_eq_getElem h] at this
 exact Option.some.inj this
@[go_sem] theorem yc3 (V : SV) (num : Nat → Int) (h : 15 < (stA V num).size) : (stA V num)[15]'h = I (num 3) := by
 have := z3o V num
 rw [Array.getElem?_eq_getElem h] at this
 exact Option.some.inj this
@[go_sem] theorem ya6 (V : SV) (num : Nat → Int) (rest : Array Value) (h : 16 < (hoA V num rest).size) : (hoA V num rest)[16]'h = I (num 4) := by
 have := z1i V num rest
 rw [Array.getElem?_eq_getElem h] at this
 exact Option.some.inj this
@[go_sem] theorem yc4 (V : SV) (num : Nat → Int) (h : 16 < (stA V num).size) : (stA V num)[16]'h = I (num 4) := by
 have := z3p V num
 rw [Array.getElem?_eq_getElem h] at this
 exact Option.some.inj this
@[go_sem] theorem ya7 (V : SV) (num : Nat → Int) (rest : Array Value) (h : 17 < (hoA V num rest).size) : (hoA V num rest)[17]'h = I (num 5) := by
 have := z1j V num rest
 rw [Array.getElem?_eq_getElem h] at this
 exact Option.some.inj this
@[go_sem] theorem yc5 (V : SV) (num : Nat → Int) (h : 17 < (stA V num).size) : (stA V num)[17]'h = I (num 5) := by
 have := z3q V num
 rw [Array.getElem?_eq_getElem h] at this
 exact Option.some.inj this
@[go_sem] theorem ya8 (V : SV) (num : Nat → Int) (rest : Array Value) (h : 18 < (hoA V num rest).size) : (hoA V num rest)[18]'h = I (num 6) := by
 have := z1k V num rest
 rw [Array.getElem?_eq_getElem h] at this
 exact Option.some.inj this
@[go_sem] theorem yc6 (V : SV) (num : Nat → Int) (h : 18 < (stA V num).size) : (stA V num)[18]'h = I (num 6) := by
 have := z3r V num
 rw [Array.getElem?_eq_getElem h] at this
 exact Option.some.inj this
@[go_sem] theorem ya9 (V : SV) (num : Nat → Int) (rest : Array Value) (h : 19 < (hoA V num rest).size) : (hoA V num rest)[19]'h = I (num 7) := by
 have := z1l V num rest
 rw [Array.getElem?_eq_getElem h] at this
 exact Option.some.inj this
@[go_sem] theorem yc7 (V : SV) (num : Nat → Int) (h : 19 < (stA V num).size) : (stA V num)[19]'h = I (num 7) := by
 have := z3s V num
 rw [Array.getElem?_eq_getElem h] at this
 exact Option.some.inj this
@[go_sem] theorem yba (V : SV) (num : Nat → Int) (rest : Array Value) (h : 20 < (hoA V num rest).size) : (hoA V num rest)[20]'h = I (num 8) := by
 have := z1m V num rest
 rw [Array.getElem?_eq_getElem h] at this
 exact Option.some.inj this
@[go_sem] theorem yc8 (V : SV) (num : Nat → Int) (h : 20 < (stA V num).size) : (stA V num)[20]'h = I (num 8) := by
 have := z3t V num
 rw [Array.getElem?_eq_getElem h] at this
 exact Option.some.inj this
@[go_sem] theorem ybb (V : SV) (num : Nat → Int) (rest : Array Value) (h : 21 < (hoA V num rest).size) : (hoA V num rest)[21]'h = I (num 9) := by
 have := z1n V num rest
 rw [Array.getElem?_eq_getElem h] at this
 exact Option.some.inj this
@[go_sem] theorem yc9 (V : SV) (num : Nat → Int) (h : 21 < (stA V num).size) : (stA V num)[21]'h = I (num 9) := by
 have := z3u V num
 rw [Array.getElem?_eq_getElem h] at this
 exact Option.some.inj this
@[go_sem] theorem ybc (V : SV) (num : Nat → Int) (rest : Array Value) (h : 22 < (hoA V num rest).size) : (hoA V num rest)[22]'h = I (num 10) := by
 have := z1o V num rest
 rw [Array.getElem?_eq_getElem h] at this
 exact Option.some.inj this
@[go_sem] theorem yda (V : SV) (num : Nat → Int) (h : 22 < (stA V num).size) : (stA V num)[22]'h = I (num 10) := by
 have := z3v V num
 rw [Array.getElem?_eq_getElem h] at this
 exact Option.some.inj this
@[go_sem] theorem ybd (V : SV) (num : Nat → Int) (rest : Array Value) (h : 23 < (hoA V num rest).size) : (hoA V num rest)[23]'h = I (num 11) := by
 have := z1p V num rest
 rw [Array.getElem?_eq_getElem h] at this
 exact Option.some.inj this
@[go_sem] theorem ydb (V : SV) (num : Nat → Int) (h : 23 < (stA V num).size) : (stA V num)[23]'h = I (num 11) := by
 have := z3w V num
 rw [Array.getElem?_eq_getElem h] at this
 exact Option.some.inj this
@[go_sem] theorem ybe (V : SV) (num : Nat → Int) (rest : Array Value) (h : 24 < (hoA V num rest).size) : (hoA V num rest)[24]'h = I (num 12) := by
 have := z1q V num rest
 rw [Array.getElem?_eq_getElem h] at this
 exact Option.some.inj this
@[go_sem] theorem ydc (V : SV) (num : Nat → Int) (h : 24 < (stA V num).size) : (stA V num)[24]'h = I (num 12) := by
 have := z3x V num
 rw [Array.getElem?_eq_getElem h] at this
 exact Option.some.inj this
@[go_sem] theorem ybf (V : SV) (num : Nat → Int) (rest : Array Value) (h : 25 < (hoA V num rest).size) : (hoA V num rest)[25]'h = I (num 13) := by
 have := z1r V num rest
 rw [Array.getElem?_eq_getElem h] at this
 exact Option.some.inj this
@[go_sem] theorem ydd (V : SV) (num : Nat → Int) (h : 25 < (stA V num).size) : (stA V num)[25]'h = I (num 13) := by
 have := z3y V num
 rw [Array.getElem?_eq_getElem h] at this
 exact Option.some.inj this
@[go_sem] theorem ybg (V : SV) (num : Nat → Int) (rest : Array Value) (h : 26 < (hoA V num rest).size) : (hoA V num rest)[26]'h = I (num 14) := by
 have := z1s V num rest
 rw [Array.getElem?_eq_getElem h] at this
 exact Option.some.inj this
@[go_sem] theorem yde (V : SV) (num : Nat → Int) (h : 26 < (stA V num).size) : (stA V num)[26]'h = I (num 14) := by
 have := z3z V num
 rw [Array.getElem?_eq_getElem h] at this
 exact Option.some.inj this
@[go_sem] theorem ybh (V : SV) (num : Nat → Int) (rest : Array Value) (h : 27 < (hoA V num rest).size) : (hoA V num rest)[27]'h = I (num 15) := by
 have := z1t V num rest
 rw [Array.getElem?_eq_getElem h] at this
 exact Option.some.inj this
@[go_sem] theorem ydf (V : SV) (num : Nat → Int) (h : 27 < (stA V num).size) : (stA V num)[27]'h = I (num 15) := by
 have := z30 V num
 rw [Array.getElem?_eq_getElem h] at this
 exact Option.some.inj this
@[go_sem] theorem ybi (V : SV) (num : Nat → Int) (rest : Array Value) (h : 28 < (hoA V num rest).size) : (hoA V num rest)[28]'h = I (num 16) := by
 have := z1u V num rest
 rw [Array.getElem?_eq_getElem h] at this
 exact Option.some.inj this
@[go_sem] theorem ydg (V : SV) (num : Nat → Int) (h : 28 < (stA V num).size) : (stA V num)[28]'h = I (num 16) := by
 have := z31 V num
 rw [Array.getElem?_eq_getElem h] at this
 exact Option.some.inj this
@[go_sem] theorem ybj (V : SV) (num : Nat → Int) (rest : Array Value) (h : 29 < (hoA V num rest).size) : (hoA V num rest)[29]'h = I (num 17) := by
 have := z1v V num rest
 rw [Array.getElem?_eq_getElem h] at this
 exact Option.some.inj this
@[go_sem] theorem ydh (V : SV) (num : Nat → Int) (h : 29 < (stA V num).size) : (stA V num)[29]'h = I (num 17) := by
 have := z32 V num
 rw [Array.getElem?_eq_getElem h] at this
 exact Option.some.inj this
@[go_sem] theorem ybk (V : SV) (num : Nat → Int) (rest : Array Value) (h : 30 < (hoA V num rest).size) : (hoA V num rest)[30]'h = I (num 18) := by
 have := z1w V num rest
 rw [Array.getElem?_eq_getElem h] at this
 exact Option.some.inj this
@[go_sem] theorem ydi (V : SV) (num : Nat → Int) (h : 30 < (stA V num).size) : (stA V num)[30]'h = I (num 18) := by
 have := z33 V num
 rw [Array.getElem?_eq_getElem h] at this
 exact Option.some.inj this
@[go_sem] theorem ybl (V : SV) (num : Nat → Int) (rest : Array Value) (h : 31 < (hoA V num rest).size) : (hoA V num rest)[31]'h = I (num 19) := by
 have := z1x V num rest
 rw [Array.getElem?_eq_getElem h] at this
 exact Option.some.inj this
@[go_sem] theorem ydj (V : SV) (num : Nat → Int) (h : 31 < (stA V num).size) : (stA V num)[31]'h = I (num 19) := by
 have := z34 V num
 rw [Array.getElem?_eq_getElem h] at this
 exact Option.some.inj this
@[go_sem] theorem ybm (V : SV) (num : Nat → Int) (rest : Array Value) (h : 32 < (hoA V num rest).size) : (hoA V num rest)[32]'h = I (num 20) := by
 have := z1y V num rest
 rw [Array.getElem?_eq_getElem h] at this
 exact Option.some.inj this
@[go_sem] theorem ydk (V : SV) (num : Nat → Int) (h : 32 < (stA V num).size) : (stA V num)[32]'h = I (num 20) := by
 have := z35 V num
 rw [Array.getElem?_eq_getElem h] at this
 exact Option.some.inj this
@[go_sem] theorem ybn (V : SV) (num : Nat → Int) (rest : Array Value) (h : 33 < (hoA V num rest).size) : (hoA V num rest)[33]'h = I (num 21) := by
 have := z1z V num rest
 rw [Array.getElem?_eq_getElem h] at this
 exact Option.some.inj this
@[go_sem] theorem ydl (V : SV) (num : Nat → Int) (h : 33 < (stA V num).size) : (stA V num)[33]'h = I (num 21) := by
 have := z36 V num
 rw [Array.getElem?_eq_getElem h] at this
 exact Option.some.inj this
@[go_sem] theorem ybo (V : SV) (num : Nat → Int) (rest : Array Value) (h : 34 < (hoA V num rest).size) : (hoA V num rest)[34]'h = I (num 22) := by
 have := z10 V num rest
 rw [Array.getElem?_eq_getElem h] at this
 exact Option.some.inj this
@[go_sem] theorem ydm (V : SV) (num : Nat → Int) (h : 34 < (stA V num).size) : (stA V num)[34]'h = I (num 22) := by
 have := z37 V num
 rw [Array.getElem?_eq_getElem h] at this
 exact Option.some.inj this
@[go_sem] theorem ybp (V : SV) (num : Nat → Int) (rest : Array Value) (h : 35 < (hoA V num rest).size) : (hoA V num rest)[35]'h = I (num 23) := by
 have := z11 V num rest
 rw [Array.getElem?_eq_getElem h] at this
 exact Option.some.inj this
@[go_sem] theorem ydn (V : SV) (num : Nat → Int) (h : 35 < (stA V num).size) : (stA V num)[35]'h = I (num 23) := by
 have := z38 V num
 rw [Array.getElem?_eq_getElem h] at this
 exact Option.some.inj this
@[go_sem] theorem ybq (V : SV) (num : Nat → Int) (rest : Array Value) (h : 36 < (hoA V num rest).size) : (hoA V num rest)[36]'h = I (num 24) := by
 have := z12 V num rest
 rw [Array.getElem?_eq_getElem h] at this
 exact Option.some.inj this
@[go_sem] theorem ydo (V : SV) (num : Nat → Int) (h : 36 < (stA V num).size) : (stA V num)[36]'h = I (num 24) := by
 have := z39 V num
 rw [Array.getElem?_eq_getElem h] at this
 exact Option.some.inj this
@[go_sem] theorem ybr (V : SV) (num : Nat → Int) (rest : Array Value) (h : 37 < (hoA V num rest).size) : (hoA V num rest)[37]'h = rest[0]'(by rw [zcr] at h; omega) := by
 have := z13 V num rest
 rw [Array.getElem?_eq_getElem h, Array.getElem?_eq_getElem (by rw [zcr] at h; omega)] at this
 exact Option.some.inj this
@[go_sem] theorem ybs (V : SV) (num : Nat → Int) (rest : Array Value) (h : 38 < (hoA V num rest).size) : (hoA V num rest)[38]'h = rest[1]'(by rw [zcr] at h; omega) := by
 have := z14 V num rest
 rw [Array.getElem?_eq_getElem h, Array.getElem?_eq_getElem (by rw [zcr] at h; omega)] at this
 exact Option.some.inj this
@[go_sem] theorem ybt (V : SV) (num : Nat → Int) (rest : Array Value) (h : 39 < (hoA V num rest).size) : (hoA V num rest)[39]'h = rest[2]'(by rw [zcr] at h; omega) := by
 have := z15 V num rest
 rw [Array.getElem?_eq_getElem h, Array.getElem?_eq_getElem (by rw [zcr] at h; omega)] at this
 exact Option.some.inj this
@[go_sem] theorem ybu (V : SV) (num : Nat → Int) (rest : Array Value) (h : 40 < (hoA V num rest).size) : (hoA V num rest)[40]'h = rest[3]'(by rw [zcr] at h; omega) := by
 have := z16 V num rest
 rw [Array.getElem?_eq_getElem h, Array.getElem?_eq_getElem (by rw [zcr] at h; omega)] at this
 exact Option.some.inj this
@[go_sem] theorem ybv (V : SV) (num : Nat → Int) (rest : Array Value) (h : 41 < (hoA V num rest).size) : (hoA V num rest)[41]'h = rest[4]'(by rw [zcr] at h; omega) := by
 have := z17 V num rest
 rw [Array.getElem?_eq_getElem h, Array.getElem?_eq_getElem (by rw [zcr] at h; omega)] at this
 exact Option.some.inj this
@[go_sem] theorem ybw (V : SV) (num : Nat → Int) (rest : Array Value) (h : 42 < (hoA V num rest).size) : (hoA V num rest)[42]'h = rest[5]'(by rw [zcr] at h; omega) := by
 have := z18 V num rest
 rw [Array.getElem?_eq_getElem h, Array.getElem?_eq_getElem (by rw [zcr] at h; omega)] at this
 exact Option.some.inj this
end Go.Proofs.YthfalocligkamaaGreatDoor
namespace Go.Proofs.YthfalocligkamaaGreatDoor
open Go Go.RowKit Go.Shelf
theorem zdj (w : World) (s : Sl) (l : List (List Int)) (R : Rows' w s 18 l) (hb : l.length ≤ 1048576) :
 Calls Tryz.prog 62 #[s.val] w fun e w' => ∃ s' : Sl, e = .returned s'.val ∧ Own w' s' 57 18 w.heap.size (zea l) ∧ s'.isNil = s.isNil ∧ Grow w w' := by
 cases s with
 | nil =>
   have hl : l = [] := List.eq_nil_of_length_eq_zero R.len.symm
   subst hl
   refine (AnyE.slices_Clone_nil Tryz.cloneObjs 0 0 w).mono ?_
   rintro e w' ⟨rfl, rfl⟩
   exact ⟨.nil, rfl, ⟨⟨by simp [Sl.n, zea], Nat.le_refl _, fun j u hu => by simp [zea] at hu⟩, Nat.zero_le _, rfl, fun b h => h.elim⟩, rfl, Grow.refl _⟩
 | mk b o n c =>
   have hn : n = l.length := R.len
   subst hn
   obtain ⟨f1, _⟩ := zln 18 l R.wid
   refine (AnyE.slices_Clone Tryz.cloneObjs Tryz.t57 (.agg (cellsOf (List.replicate 18 0))) 18 144 (by kernel_rfl) (by kernel_rfl) (by kernel_rfl) (by kernel_rfl) rfl (by omega) (fun w => by kernel_rfl) b o l.length c (zea l) w (by rw [zea, List.length_map, f1]) (by unfold maxLen; omega) (by omega) (fun j u hu => R.cells.cell j u hu) (zck l)).mono ?_
   rintro e w' ⟨v', rfl, hown, hne, hb⟩
   obtain ⟨s', rfl, hI, _⟩ := zk6 hown
   refine ⟨s', rfl, hI, ?_, Grow.of_below hb⟩
   cases s' with
   | nil => exact absurd rfl hne
   | mk => rfl
theorem Own.ints {w : World} {s : Sl} {e : TypeId} {base : Nat} {l : List Int} (h : Own w s e 1 base (l.map I)) : Ints w s l := h.cells.ints
theorem Own.rows {w : World} {s : Sl} {e : TypeId} {k base : Nat} {l : List (List Int)} (h : Own w s e k base (zea l)) (hk : 0 < k) (hw : ∀ i, i < l.length → (rowAt l i).length = k) : Rows' w s k l := h.cells.rows hk hw
def SV.uses (V : SV) (b : Nat) : Prop := V.objs.owns b ∨ ∃ z, z < 11 ∧ (V.list z).owns b
theorem owns_b {s : Sl} {b : Nat} (h : s.owns b) : b = s.b := by
 cases s with
 | nil => exact h.elim
 | mk => exact h
theorem zbs {w : World} {s : Sl} {l : List Int} (h : Ints w s l) (hl : 0 < l.length) : s.owns s.b := by
 cases s with
 | nil => have := h.len; simp [Sl.n] at this; omega
 | mk => rfl
theorem zbn {w : World} {s : Sl} {k : Nat} {l : List (List Int)} (h : Rows' w s k l) (hl : 0 < l.length) : s.owns s.b := by
 cases s with
 | nil => have := h.len; simp [Sl.n] at this; omega
 | mk => rfl
theorem Off.kept {b : Nat} {W W' : World} (h : Off b W W') (ho : W'.os = W.os) (ht : W'.tape = W.tape) (hp : W'.output = W.output) : Kept (fun k => k = b) W W' :=
 ⟨ho, ht, hp, by rw [h.size]; exact Nat.le_refl _, fun k _ hk => h.block k hk⟩
theorem Own.apart {w w' : World} {s : Sl} {e : TypeId} {k base : Nat} {xs : List Value} {b : Nat} (h : Own w s e k base xs) (g : Off b w w') (hn : ∀ b', s.owns b' → b' ≠ b) : Own w' s e k base xs := by
 refine ⟨⟨h.cells.len, h.cells.cap, fun j u hu => ?_⟩, h.max, h.off, fun b' hb => ?_⟩
 · have h1 := h.cells.cell j u hu
   cases s with
   | nil =>
     have := h.cells.len
     simp [Sl.n] at this
     subst this
     simp at hu
   | mk b' o n c =>
     rw [World.cell?_of_block (g.block b' (hn b' rfl))]; exact h1
 · obtain ⟨h1, cur, e1, e2⟩ := h.blk b' hb
   exact ⟨h1, cur, by rw [g.block b' (hn b' hb)]; exact e1, e2⟩
set_option maxRecDepth 100000 in
set_option maxHeartbeats 2000000 in
theorem zkr (S : St) (V : SV) (w : World) (R : RepSt w V S) (hS : Small S) :
 Calls Tryz.prog 39 #[.agg (stA V S.num)] w fun e w' => ∃ V', e = .returned (.agg (stA V' S.num)) ∧ RepSt w' V' S ∧ (∀ b, V'.uses b → w.heap.size ≤ b ∧ b < w'.heap.size) ∧ Grow w w' := by
 go_enter Tryz.func39, Tryz.ntmps39
 go_wp2_with fail
 go_at_call 62
 refine (zdj _ V.objs S.objs (R.objs.grow grI) hS.objs).mono ?_
 rintro e w' ⟨so, rfl, hO, _, nx, rfl⟩
 have hOb : ∀ b, so.owns b → w.heap.size + 2 ≤ b := fun b h => by
  have h1 := (hO.lt b h).1
  simpa [zaa] using h1
 go_wp2_with fail
 have hO2 : Own (((w.alloc (.cells (stA { V with objs := so } S.num) 29)).alloc (.cells (stA SV.zero fun _ => 0) 29)).plus nx) so _ 18 _ (zea S.objs) :=
  hO.apart (b := w.heap.size) (by repeat (first | exact Off.base _ _ _ _ rfl | refine Off.plus ?_ _ | refine Off.alloc ?_ _)) (fun b h => by have := hOb b h; omega)
 go_loopw [3, 8] (fun _ i wr => ∃ (k : Nat) (V' : SV) (x : Ext), k ≤ 11 ∧ i = .int .i64 k ∧ wr = ((w.alloc (.cells (stA V' S.num) 29)).alloc (.cells (stA SV.zero fun _ => 0) 29)).plus x ∧
  Own wr V'.objs 57 18 (w.heap.size + 2) (zea S.objs) ∧ (∀ z, z < k → Own wr (V'.list z) 3 1 (w.heap.size + 2) ((S.list z).map I)) ∧ (∀ z, k ≤ z → V'.list z = V.list z)) (fun _ i _ => 11 - (intOf i).toNat)
 case atStart => exact ⟨0, _, nx, by omega, rfl, rfl, hO2.mono (by rw [zaa, zaa]; exact Nat.le_refl _), fun z hz => by omega, fun z _ => rfl⟩
 case round =>
  obtain ⟨k, V', x, hk, rfl, rfl, hO3, hL3, hV3⟩ := hrel
  have HO3 := Lib.hid hO3
  have HL3 := Lib.hid hL3
  have HV3 := Lib.hid hV3
  clear hO hO2 hO3 hL3 hV3
  by_cases hlt : k < 11
  · have hVk := HV3.out k (Nat.le_refl _)
    go_wp2_with fail
    go_at_call 40
    refine (zdi _ (V.list k) (S.list k) ((R.list k hlt).grow grI) (hS.list k hlt)).mono ?_
    rintro e w' ⟨sk, rfl, hI, _, ny, rfl⟩
    rw [zad] at hI
    have HI := Lib.hid (hI.mono (base' := w.heap.size + 2) (by rw [zac, zaa, zaa]; omega))
    clear hI
    go_wp2_with fail
    refine ⟨⟨k + 1, _, _, by omega, by go_num, rfl, ?_, ?_, ?_⟩, by simp [intOf]; omega⟩
    · rw [← zad]
      exact (HO3.out.apart (b := w.heap.size) (by repeat (first | exact Off.base _ _ _ _ rfl | refine Off.plus ?_ _ | refine Off.alloc ?_ _)) (fun b h => by have := (HO3.out.lt b h).1; omega)).grow ⟨ny, rfl⟩
    · intro z hz
      by_cases e : z = k
      · subst e
        simp only [zbo]
        exact HI.out.apart (b := w.heap.size) (by repeat (first | exact Off.base _ _ _ _ rfl | refine Off.plus ?_ _ | refine Off.alloc ?_ _)) (fun b h => by have := (HI.out.lt b h).1; omega)
      · simp only [zco _ _ _ _ e]
        have h1 := HL3.out z (by omega)
        rw [← zad]
        exact (h1.apart (b := w.heap.size) (by repeat (first | exact Off.base _ _ _ _ rfl | refine Off.plus ?_ _ | refine Off.alloc ?_ _)) (fun b h => by have := (h1.lt b h).1; omega)).grow ⟨ny, rfl⟩
    · intro z hz
      show upd V'.list k sk z = V.list z
      rw [zco _ _ _ _ (by omega), HV3.out z (by omega)]
  · go_wp2_with fail
    refine bodyPost_ret (zhi rfl _ _ (w.heap.size + 1) rfl ?_) rfl ?_
    · go_simp
    · have hO4 := HO3.out.apart (b := w.heap.size + 1) (w' := ((w.alloc (.cells (stA V' S.num) 29)).alloc (.cells (stA V' S.num) 29)).plus x) (by repeat (first | exact Off.base _ _ _ _ (zaa _ _).symm | refine Off.plus ?_ _ | refine Off.alloc ?_ _)) (fun b h => by have := (HO3.out.lt b h).1; omega)
      have hL4 := fun z (hz : z < 11) => (HL3.out z (by omega)).apart (b := w.heap.size + 1) (w' := ((w.alloc (.cells (stA V' S.num) 29)).alloc (.cells (stA V' S.num) 29)).plus x) (by repeat (first | exact Off.base _ _ _ _ (zaa _ _).symm | refine Off.plus ?_ _ | refine Off.alloc ?_ _)) (fun b h => by have := ((HL3.out z (by omega)).lt b h).1; omega)
      refine ⟨V', by go_simp, ⟨hO4.rows (by omega) R.objs.wid, fun z hz => (hL4 z hz).ints⟩, ?_, grI⟩
      rintro b (h | ⟨z, hz, h⟩)
      · have := hO4.lt b h; exact ⟨by omega, this.2⟩
      · have := (hL4 z hz).lt b h; exact ⟨by omega, this.2⟩
end Go.Proofs.YthfalocligkamaaGreatDoor
namespace Go.Proofs.YthfalocligkamaaGreatDoor
open Go Go.RowKit
theorem zc3 {w : World} {b : Nat} (hf : w.free b = true) : ∃ c t, w.heap[b]? = some (.cells c t (0, 0)) := by
 unfold World.free at hf
 cases ho : w.heap[b]? with
 | none => rw [ho] at hf; cases hf
 | some o =>
   rw [ho] at hf
   cases o <;> try (cases hf; done)
   rename_i c t f
   have : f = (0, 0) := by simpa using hf
   subst this
   exact ⟨c, t, rfl⟩
theorem zje {w : World} {b : Nat} (hf : w.free b = true) : b < w.heap.size := by
 obtain ⟨c, t, h⟩ := zc3 hf
 exact (Array.getElem?_eq_some_iff.1 h).1
theorem zqo {w : World} {b : Nat} (hf : w.free b = true) : ∃ t, w.heap[b]? = some (.cells (w.blk b) t (0, 0)) := by
 obtain ⟨c, t, h⟩ := zc3 hf
 exact ⟨t, by rw [h]; simp [World.blk, h]⟩
@[go_sem] theorem z6n (w : World) (b k i : Nat) (cs : Array Value) (hf : w.free b = true) : (w.setRow b cs).cell? ⟨k, i, none⟩ = if k = b then cs[i]? else w.cell? ⟨k, i, none⟩ := by
 obtain ⟨c, t, h⟩ := zc3 hf
 split
 · rename_i e; subst e
   simp [World.cell?, World.setRow, Array.getElem?_modify, h]
 · rename_i e
   simp only [World.cell?, World.setRow, Array.getElem?_modify, if_neg (Ne.symm e)]
@[go_sem] theorem z06 (w : World) (b k i : Nat) (cs : Array Value) (hf : w.free b = true) : (w.setRow b cs).frozen? ⟨k, i, none⟩ = w.frozen? ⟨k, i, none⟩ := by
 obtain ⟨c, t, h⟩ := zc3 hf
 by_cases e : b = k
 · subst e
   simp [World.frozen?, World.setRow, Array.getElem?_modify, h]
 · simp only [World.frozen?, World.setRow, Array.getElem?_modify, if_neg e]
@[go_sem] theorem zer (w : World) (b k : Nat) (cs : Array Value) (hf : w.free b = true) : (w.setRow b cs).blk k = if k = b then cs else w.blk k := by
 obtain ⟨c, t, h⟩ := zc3 hf
 split
 · rename_i e; subst e
   simp [World.blk, World.setRow, Array.getElem?_modify, h]
 · rename_i e
   simp only [World.blk, World.setRow, Array.getElem?_modify, if_neg (Ne.symm e)]
theorem zjz (w : World) (b i : Nat) (v : Value) (hf : w.free b = true) : w.setCell ⟨b, i, none⟩ v = w.setRow b ((w.blk b).setIfInBounds i v) := by
 obtain ⟨c, t, h⟩ := zc3 hf
 have hb : w.blk b = c := by simp [World.blk, h]
 rw [hb]
 unfold World.setCell World.setRow
 congr 1
 apply Array.ext_getElem?
 intro k
 simp only [Array.getElem?_modify]
 by_cases e : b = k
 · subst e; simp [h]
 · simp [e]
theorem zel (w : World) (b : Nat) (cs ds : Array Value) (hf : w.free b = true) : (w.setRow b cs).setRow b ds = w.setRow b ds := by
 obtain ⟨c, t, h⟩ := zc3 hf
 unfold World.setRow
 congr 1
 apply Array.ext_getElem?
 intro k
 simp only [Array.getElem?_modify]
 by_cases e : b = k
 · subst e; simp [h]
 · simp [e]
def setRow2 (w : World) (b : Nat) (cs : Array Value) (k : Nat) (ds : Array Value) : World := (w.setRow b cs).setRow k ds
@[go_sem] theorem z3e (w : World) (b k : Nat) (cs ds : Array Value) (hf : w.free b = true) : (w.setRow b cs).setRow k ds = if k = b then w.setRow b ds else setRow2 w b cs k ds := by
 split
 · rename_i e; subst e; exact zel w k cs ds hf
 · rfl
def z3d (w : World) (b : Nat) (cs : Array Value) (k i : Nat) (v : Value) : World := (w.setRow b cs).setCell ⟨k, i, none⟩ v
@[go_sem] theorem zz9 (w : World) (b k i : Nat) (cs : Array Value) (v : Value) (hf : w.free b = true) : (w.setRow b cs).setCell ⟨k, i, none⟩ v = if k = b then w.setRow b (cs.setIfInBounds i v) else z3d w b cs k i v := by
 split
 · rename_i e; subst e
   rw [zjz _ _ _ _ (by rw [zd1]; exact hf), zer _ _ _ _ hf, if_pos rfl, zel _ _ _ _ hf]
 · rfl
structure Host (w : World) (b : Nat) (V : SV) (S : St) (rest : Array Value) : Prop where
 blk : w.blk b = hoA V S.num rest
 free : w.free b = true
 rep : RepSt w V S
 apart : ¬ V.uses b
 in' : ∀ k, V.uses k → k < w.heap.size
theorem Host.lt {w : World} {b : Nat} {V : SV} {S : St} {rest : Array Value} (h : Host w b V S rest) : b < w.heap.size := zje h.free
theorem zaf {w : World} {b : Nat} {cs : Array Value} (hf : w.free b = true) (h : w.blk b = cs) (i : Nat) : w.cell? ⟨b, i, none⟩ = cs[i]? := by
 obtain ⟨t, e⟩ := zqo hf
 subst h
 simp [World.cell?, e]
theorem zah {w : World} {b : Nat} (hf : w.free b = true) (i : Nat) : w.frozen? ⟨b, i, none⟩ = false := by
 obtain ⟨c, t, e⟩ := zc3 hf
 simp [World.frozen?, e]
theorem zag {w : World} {b : Nat} {cs : Array Value} (hf : w.free b = true) (h : w.blk b = cs) (i : Nat) (v : Value) : w.setCell ⟨b, i, none⟩ v = w.setRow b (cs.setIfInBounds i v) := by
 rw [zjz w b i v hf, h]
def Put (b : Nat) (cs : Array Value) (w w' : World) : Prop := ∃ x, w' = (w.setRow b cs).plus x
theorem Put.of_grow {b : Nat} {cs : Array Value} {w w' : World} (h : Grow (w.setRow b cs) w') : Put b cs w w' := h
theorem Put.kept {b : Nat} {cs : Array Value} {w w' : World} (h : Put b cs w w') : Kept (fun k => k = b) w w' := by
 obtain ⟨x, rfl⟩ := h
 exact (Kept.setRow (own := fun k => k = b) (Kept.refl _ _) b cs (fun _ => rfl)).plus x
theorem RepSt.kept {own : Nat → Prop} {w w' : World} {V : SV} {S : St} (h : RepSt w V S) (g : Kept own w w') (hn : ∀ k, V.uses k → ¬ own k) : RepSt w' V S :=
 ⟨h.objs.kept g (fun hl => hn _ (Or.inl (zbn h.objs hl))), fun z hz => (h.list z hz).kept g (fun hl => hn _ (Or.inr ⟨z, hz, zbs (h.list z hz) hl⟩))⟩
theorem Host.grow {w w' : World} {b : Nat} {V : SV} {S : St} {rest : Array Value} (h : Host w b V S rest) (g : Grow w w') : Host w' b V S rest := by
 have hl := h.lt
 refine ⟨by rw [zfu g hl, h.blk], ?_, h.rep.grow g, h.apart, fun k hk => Nat.lt_of_lt_of_le (h.in' k hk) g.size⟩
 rw [(g.kept (fun _ => False)).free b hl (fun h => h)]; exact h.free
end Go.Proofs.YthfalocligkamaaGreatDoor
