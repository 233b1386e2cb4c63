/- Slices that a call makes for itself by appending. -/
import Derived.Test.YthfalocligkamaaGreatDoorMEv2
import Derived.Test.YthfalocligkamaaGreatDoorMCard
namespace Go.Proofs.YthfalocligkamaaGreatDoor
open Go Go.RowKit
structure Made (base : Nat) (w : World) (s : Sl) (k : Nat) (xs : List Value) : Prop where
 cells : Cells w s k xs
 room : Room w s k
 own : ∀ b, s.owns b → base ≤ b ∧ b < w.heap.size
theorem Made.grow {base : Nat} {w w' : World} {s : Sl} {k : Nat} {xs : List Value} (h : Made base w s k xs) (g : Grow w w') : Made base w' s k xs :=
 ⟨h.cells.grow g, h.room.grow g, fun b hb => ⟨(h.own b hb).1, Nat.lt_of_lt_of_le (h.own b hb).2 g.size⟩⟩
theorem Made.nil (base : Nat) (w : World) (k : Nat) : Made base w .nil k [] :=
 ⟨⟨by simp [Sl.n], Nat.le_refl _, fun j u hu => by simp at hu⟩, Room.nil _ _, fun b h => h.elim⟩
theorem Made.low {m base : Nat} {w : World} {s : Sl} {k : Nat} {xs : List Value} (h : Made base w s k xs) (hm : m ≤ base) : Made m w s k xs :=
 ⟨h.cells, h.room, fun b hb => ⟨Nat.le_trans hm (h.own b hb).1, (h.own b hb).2⟩⟩
section
variable {P : Program} {w : World}
theorem zy3 {o : Oper} {a : Act} {K : Act → World → Prop} {Q : Exit → Act → World → Prop} (s x : Operand) (t : TypeId) (ho : o.op = .call { callee := .builtin .append, args := #[s, x], argTypes := #[t, t] })
 (e : TypeId) (i : TypeInfo) (z : Value) (k bytes : Nat) (ht : P.underlying t = some (.slice e)) (hi : P.info? e = some i) (hz : i.zero = some z) (hk : i.size = k) (hby : i.bytes = bytes) (hbb : bytes ≤ 1024) (hzc : z.cells.size = k)
 (W0 : World) (s1 s2 : Sl) (xs ys : List Value) (hs : a.eval s = s1.val) (hx : a.eval x = s2.val) (A : Made W0.heap.size w s1 k xs) (g : Grow W0 w) (R2 : Cells w s2 k ys) (h1 : ∀ u ∈ xs, u.oneCell' = true) (h2 : ∀ u ∈ ys, u.oneCell' = true) (hb : s1.n + s2.n ≤ 4194304)
 (h : ∀ s' y, Made W0.heap.size (W0.plus y) s' k (xs ++ ys) → Kept s1.owns w (W0.plus y) → s'.n = s1.n + s2.n → (∀ b, s'.owns b → s1.owns b ∨ w.heap.size ≤ b) → K (a.put o.dst s'.val) (W0.plus y)) : o.wp P a w K Q := by
 refine zde s x t ho e i z k bytes ht hi hz hk hby hbb hzc s1 s2 xs ys hs hx A.cells A.room R2 h1 h2 hb fun s' w' c1 c2 c3 c4 c5 _ => ?_
 obtain ⟨y, rfl⟩ : Grow W0 w' := c3.grow_of g (fun j hj => (A.own j hj).1)
 refine h s' y ⟨c1, c2, fun b hb => ?_⟩ c3 c5 (fun b hb => (c4 b hb).imp id And.left)
 rcases c4 b hb with h | h
 · exact ⟨(A.own b h).1, Nat.lt_of_lt_of_le (A.own b h).2 c3.size⟩
 · exact ⟨Nat.le_trans (Grow.size g) h.1, h.2⟩
theorem zbc {ops : Array Oper} {rest : List Oper} {o : Oper} {a : Act} {Q : Exit → Act → World → Prop} (hgd : o.guard = none) (s x : Operand) (t : TypeId) (ho : o.op = .call { callee := .builtin .append, args := #[s, x], argTypes := #[t, t] })
 (e : TypeId) (i : TypeInfo) (z : Value) (k bytes : Nat) (ht : P.underlying t = some (.slice e)) (hi : P.info? e = some i) (hz : i.zero = some z) (hk : i.size = k) (hby : i.bytes = bytes) (hbb : bytes ≤ 1024) (hzc : z.cells.size = k)
 (W0 : World) (s1 s2 : Sl) (xs ys : List Value) (hs : a.eval s = s1.val) (hx : a.eval x = s2.val) (A : Made W0.heap.size w s1 k xs) (g : Grow W0 w) (R2 : Cells w s2 k ys) (h1 : ∀ u ∈ xs, u.oneCell' = true) (h2 : ∀ u ∈ ys, u.oneCell' = true) (hb : s1.n + s2.n ≤ 4194304)
 (h : ∀ s' y, Made W0.heap.size (W0.plus y) s' k (xs ++ ys) → Kept s1.owns w (W0.plus y) → s'.n = s1.n + s2.n → (∀ b, s'.owns b → s1.owns b ∨ w.heap.size ≤ b) → wpList P ops Q rest (a.put o.dst s'.val) (W0.plus y)) : wpList P ops Q (o :: rest) a w :=
 wpList_plain hgd fun _ hK => zy3 s x t ho e i z k bytes ht hi hz hk hby hbb hzc W0 s1 s2 xs ys hs hx A g R2 h1 h2 hb fun s' y c1 c2 c3 c4 => hK _ _ (h s' y c1 c2 c3 c4)
theorem zyw {ops : Array Oper} {o : Oper} {a : Act} {K : Act → World → Prop} {Q : Exit → Act → World → Prop} {E : Prop} (hgd : o.guard = none) (s x : Operand) (t : TypeId) (ho : o.op = .call { callee := .builtin .append, args := #[s, x], argTypes := #[t, t] })
 (e : TypeId) (i : TypeInfo) (z : Value) (k bytes : Nat) (ht : P.underlying t = some (.slice e)) (hi : P.info? e = some i) (hz : i.zero = some z) (hk : i.size = k) (hby : i.bytes = bytes) (hbb : bytes ≤ 1024) (hzc : z.cells.size = k)
 (W0 : World) (s1 s2 : Sl) (xs ys : List Value) (hs : a.eval s = s1.val) (hx : a.eval x = s2.val) (A : Made W0.heap.size w s1 k xs) (g : Grow W0 w) (R2 : Cells w s2 k ys) (h1 : ∀ u ∈ xs, u.oneCell' = true) (h2 : ∀ u ∈ ys, u.oneCell' = true) (hb : s1.n + s2.n ≤ 4194304)
 (h : ∀ s' y, Made W0.heap.size (W0.plus y) s' k (xs ++ ys) → Kept s1.owns w (W0.plus y) → s'.n = s1.n + s2.n → (∀ b, s'.owns b → s1.owns b ∨ w.heap.size ≤ b) → K (a.put o.dst s'.val) (W0.plus y)) :
 if Region.wanted o (yielded ops a.tmps) = true then Oper.wp P o a w K Q else E :=
 zak hgd (zy3 s x t ho e i z k bytes ht hi hz hk hby hbb hzc W0 s1 s2 xs ys hs hx A g R2 h1 h2 hb h)
end
theorem zjv {P : Program} (w : World) (t tx ty e : TypeId) (i : TypeInfo) (z : Value) (k bytes : Nat) (ht : P.underlying t = some (.slice e)) (htx : P.underlying tx = some (.slice e)) (hi : P.info? e = some i) (hz : i.zero = some z)
 (hk : i.size = k) (hby : i.bytes = bytes) (hbb : bytes ≤ 1024) (hzc : z.cells.size = k) (s s2 : Sl) (xs ys : List Value) (R : Cells w s k xs) (hg : s.c < s.n + s2.n) (R2 : Cells w s2 k ys) (h2 : ∀ u ∈ ys, u.oneCell' = true) (hb : s.n + s2.n ≤ 4194304) :
 ∃ s' y, (Builtin.append_ #[t, tx] ty #[s.val, s2.val]).run P w = .ok s'.val (w.plus y) ∧ Cells (w.plus y) s' k (xs ++ ys) ∧ Room (w.plus y) s' k ∧ (∀ b, s'.owns b → w.heap.size ≤ b ∧ b < (w.plus y).heap.size) ∧ s'.n = s.n + s2.n ∧ w.heap.size ≤ s'.b := by
 subst hk hby
 have hs : Src P i.size tx s2.val s2.n ys w := by
  cases s2 with
  | nil =>
    have : ys = [] := List.eq_nil_of_length_eq_zero (by have := R2.len; simpa [Sl.n] using this)
    subst this
    exact Src.ofNil w htx 0
  | mk b o n c => exact Src.ofSlice w htx ⟨b, o, none⟩ n c ys R2.len (fun j u hj => by rw [Addr.add_lit]; exact R2.cell j u hj) h2
 have hml : s.n + s2.n ≤ maxLen := by unfold maxLen; omega
 have hbytes : (s.n + s2.n) * i.bytes ≤ 140737488355328 := by
  have : (s.n + s2.n) * i.bytes ≤ 4194304 * 1024 := Nat.mul_le_mul hb hbb
  omega
 have hsv : ∃ ao, s.val = .slice ao s.n s.c ∧ (Builtin.firstCells i.size s.n (.slice ao s.n s.c)).run P w.drew = .ok xs.toArray w.drew := by
  cases s with
  | nil =>
    have hx : xs = [] := List.eq_nil_of_length_eq_zero (by have := R.len; simpa [Sl.n] using this)
    subst hx
    exact ⟨none, rfl, run_firstCells_none w.drew i.size 0 0 0⟩
  | mk b o n c =>
    exact ⟨some ⟨b, o, none⟩, rfl, run_firstCells_some w.drew i.size n ⟨b, o, none⟩ n c xs R.len (fun j u hj => by rw [Addr.add_lit]; exact R.cell j u hj)⟩
 obtain ⟨ao, hv, hfc⟩ := hsv
 have hcap := grownCap_ge w (s.n + s2.n) s.c e
 have hmx := grownCap_le_maxLen w (s.n + s2.n) s.c e hml
 have hlen : (xs ++ ys).length = (s.n + s2.n) * i.size := by rw [List.length_append, R.len, R2.len, ← Nat.add_mul]
 have hd : w.heap.size = w.drew.heap.size := rfl
 have hgr : Grow w (w.drew.alloc (.cells ((xs ++ ys).toArray ++ Builtin.zeroCells z.cells (grownCap w (s.n + s2.n) s.c e - (s.n + s2.n))) e)) := (Grow.refl w).drew.alloc _
 obtain ⟨y, hy⟩ := hgr
 refine ⟨.mk w.heap.size 0 (s.n + s2.n) (grownCap w (s.n + s2.n) s.c e), y, ?_, ?_⟩
 · rw [← hy, hv]
   exact run_append_grow_src (P := P) w t tx ty e i z ht hi hz ao s.n s.c xs hfc s2.val s2.n ys hs hg (by unfold maxLen at hml; omega) (growslice_fits hg hbytes)
 rw [← hy]
 refine ⟨⟨hlen, hcap, fun j u hu => ?_⟩, ⟨hmx, fun j hj => ?_⟩, fun b h => ?_, rfl, Nat.le_refl _⟩
 · have hj := (List.getElem?_eq_some_iff.1 hu).1
   simp only [Sl.b, Sl.o, Nat.zero_add]
   rw [zbu, if_pos hd, Array.getElem?_append_left (by simpa using hj), ← hu]; simp
 · have hj : j < grownCap w (s.n + s2.n) s.c e * i.size := hj
   simp only [Sl.b, Sl.o, Nat.zero_add]
   rw [zbu, if_pos hd, zh8, if_pos hd]
   refine ⟨?_, rfl⟩
   rw [Array.getElem?_eq_getElem (by
    rw [Array.size_append, size_zeroCells, hzc, List.size_toArray, hlen, ← Nat.add_mul, Nat.add_sub_cancel' hcap]; exact hj)]
   rfl
 · have h : b = w.heap.size := h
   subst h
   rw [zaa]
   exact ⟨Nat.le_refl _, Nat.lt_succ_self _⟩
section
variable {P : Program} {w : World}
theorem zy2 {o : Oper} {a : Act} {K : Act → World → Prop} {Q : Exit → Act → World → Prop} (s x : Operand) (t : TypeId) (ho : o.op = .call { callee := .builtin .append, args := #[s, x], argTypes := #[t, t] })
 (e : TypeId) (i : TypeInfo) (z : Value) (k bytes : Nat) (ht : P.underlying t = some (.slice e)) (hi : P.info? e = some i) (hz : i.zero = some z) (hk : i.size = k) (hby : i.bytes = bytes) (hbb : bytes ≤ 1024) (hzc : z.cells.size = k)
 (s1 s2 : Sl) (xs ys : List Value) (hs : a.eval s = s1.val) (hx : a.eval x = s2.val) (R : Cells w s1 k xs) (hg : s1.c < s1.n + s2.n) (R2 : Cells w s2 k ys) (h2 : ∀ u ∈ ys, u.oneCell' = true) (hb : s1.n + s2.n ≤ 4194304)
 (h : ∀ s' y, Cells (w.plus y) s' k (xs ++ ys) → s'.n = s1.n + s2.n → w.heap.size ≤ s'.b → K (a.put o.dst s'.val) (w.plus y)) : o.wp P a w K Q := by
 obtain ⟨s', y, hr, c1, c2, c3, c4, c5⟩ := zjv (P := P) w t t o.type e i z k bytes ht ht hi hz hk hby hbb hzc s1 s2 xs ys R hg R2 h2 hb
 unfold Oper.wp execOp
 simp only [ho, resolve, invoke, builtin, Sem.run_bind, Sem.run_pure, Result.andThen_ok, List.map_toArray, List.map_cons, List.map_nil, hs, hx, hr]
 exact h s' y c1 c4 c5
theorem zgq {ops : Array Oper} {rest : List Oper} {o : Oper} {a : Act} {Q : Exit → Act → World → Prop} (hgd : o.guard = none) (s x : Operand) (t : TypeId) (ho : o.op = .call { callee := .builtin .append, args := #[s, x], argTypes := #[t, t] })
 (e : TypeId) (i : TypeInfo) (z : Value) (k bytes : Nat) (ht : P.underlying t = some (.slice e)) (hi : P.info? e = some i) (hz : i.zero = some z) (hk : i.size = k) (hby : i.bytes = bytes) (hbb : bytes ≤ 1024) (hzc : z.cells.size = k)
 (s1 s2 : Sl) (xs ys : List Value) (hs : a.eval s = s1.val) (hx : a.eval x = s2.val) (R : Cells w s1 k xs) (hg : s1.c < s1.n + s2.n) (R2 : Cells w s2 k ys) (h2 : ∀ u ∈ ys, u.oneCell' = true) (hb : s1.n + s2.n ≤ 4194304)
 (h : ∀ s' y, Cells (w.plus y) s' k (xs ++ ys) → s'.n = s1.n + s2.n → w.heap.size ≤ s'.b → wpList P ops Q rest (a.put o.dst s'.val) (w.plus y)) : wpList P ops Q (o :: rest) a w :=
 wpList_plain hgd fun _ hK => zy2 s x t ho e i z k bytes ht hi hz hk hby hbb hzc s1 s2 xs ys hs hx R hg R2 h2 hb fun s' y c1 c2 c3 => hK _ _ (h s' y c1 c2 c3)
theorem zob {ops : Array Oper} {o : Oper} {a : Act} {K : Act → World → Prop} {Q : Exit → Act → World → Prop} {E : Prop} (hgd : o.guard = none) (s x : Operand) (t : TypeId) (ho : o.op = .call { callee := .builtin .append, args := #[s, x], argTypes := #[t, t] })
 (e : TypeId) (i : TypeInfo) (z : Value) (k bytes : Nat) (ht : P.underlying t = some (.slice e)) (hi : P.info? e = some i) (hz : i.zero = some z) (hk : i.size = k) (hby : i.bytes = bytes) (hbb : bytes ≤ 1024) (hzc : z.cells.size = k)
 (s1 s2 : Sl) (xs ys : List Value) (hs : a.eval s = s1.val) (hx : a.eval x = s2.val) (R : Cells w s1 k xs) (hg : s1.c < s1.n + s2.n) (R2 : Cells w s2 k ys) (h2 : ∀ u ∈ ys, u.oneCell' = true) (hb : s1.n + s2.n ≤ 4194304)
 (h : ∀ s' y, Cells (w.plus y) s' k (xs ++ ys) → s'.n = s1.n + s2.n → w.heap.size ≤ s'.b → K (a.put o.dst s'.val) (w.plus y)) :
 if Region.wanted o (yielded ops a.tmps) = true then Oper.wp P o a w K Q else E :=
 zak hgd (zy2 s x t ho e i z k bytes ht hi hz hk hby hbb hzc s1 s2 xs ys hs hx R hg R2 h2 hb h)
end
theorem zlk {k : Nat} {l : List (Array Value)} (h : ∀ x, x ∈ l → x.size = k) {i : Nat} {x : Array Value} (hx : l[i]? = some x) {j : Nat} (hj : j < k) : (zd0 l)[i * k + j]? = x[j]? := by
 obtain ⟨hi, rfl⟩ := List.getElem?_eq_some_iff.1 hx
 rw [← zfv k l h i hi, sub, Array.getElem?_extract]
 have hs := zgx k l h
 have : (i + 1) * k ≤ l.length * k := Nat.mul_le_mul_right _ hi
 rw [Nat.add_mul] at this
 rw [if_pos (by omega)]
theorem RowsV.many {w : World} {b k n : Nat} {l : List (Array Value)} (hf : w.free b = true) (h : w.blk b = zd0 l) (hk : ∀ x, x ∈ l → x.size = k) (hn : n = l.length) : RowsV w (.mk b 0 n n) k l := by
 refine ⟨hn, Nat.le_refl _, hk, fun i j x hx hj => ?_⟩
 simp only [Sl.b, Sl.o, Nat.zero_add]
 rw [zaf hf h, zlk hk hx hj]
theorem RowsV.at {w : World} {s : Sl} {k : Nat} {l : List (Array Value)} (h : RowsV w s k l) (hk : 0 < k) {i : Nat} {x : Array Value} (hx : l[i]? = some x) :
 s.b < w.heap.size ∧ s.o + i * k + k ≤ (w.blk s.b).size ∧ sub (w.blk s.b) (s.o + i * k) k = x := by
 have hs : x.size = k := h.wid x (List.mem_of_getElem? hx)
 have hc : ∀ j, (hj : j < k) → s.b < w.heap.size ∧ (w.blk s.b)[s.o + i * k + j]? = some (x[j]'(by omega)) := fun j hj =>
  zbd (by rw [h.cell i j x hx hj, Array.getElem?_eq_getElem (by omega)])
 have hl := (Array.getElem?_eq_some_iff.1 (hc (k - 1) (by omega)).2).1
 refine ⟨(hc 0 hk).1, by omega, ?_⟩
 unfold sub
 apply Array.ext_getElem?
 intro j
 rw [Array.getElem?_extract]
 by_cases hj : j < k
 · rw [if_pos (by omega), (hc j hj).2, Array.getElem?_eq_getElem (by omega)]
 · rw [if_neg (by omega), Array.getElem?_eq_none (by omega)]
def zda (l : List (Array Value)) : List Value := l.flatMap Array.toList
theorem zeg (a b : List (Array Value)) : zda (a ++ b) = zda a ++ zda b := by simp [zda]
theorem zjd (l : List (Array Value)) : zda l = (zd0 l).toList := by
 induction l with
 | nil => simp [zda, zd0]
 | cons x l ih =>
   show x.toList ++ zda l = (x ++ zd0 l).toList
   rw [ih, Array.toList_append]
theorem zdb {l : List (Array Value)} (h : ∀ x, x ∈ l → zai x = true) : ∀ u ∈ zda l, u.oneCell' = true := by
 intro u hu
 have h1 := zqh l h
 rw [zjd] at hu
 unfold zai at h1
 rw [Array.all_eq_true_iff_forall_mem] at h1
 exact h1 u (by simpa using hu)
theorem RowsV.cells {w : World} {s : Sl} {k : Nat} {l : List (Array Value)} (h : RowsV w s k l) : Cells w s k (zda l) := by
 rw [zjd]
 have hs := zgx k l h.wid
 refine ⟨by rw [Array.length_toList, hs, h.len], h.cap, fun j u hu => ?_⟩
 rw [Array.getElem?_toList] at hu
 have hj := (Array.getElem?_eq_some_iff.1 hu).1
 rw [hs] at hj
 rcases Nat.eq_zero_or_pos k with hk | hk
 · subst hk; simp at hj
 have hd : j / k < l.length := Nat.div_lt_of_lt_mul (by rw [Nat.mul_comm]; exact hj)
 have hm : j % k < k := Nat.mod_lt _ hk
 have hjk : j / k * k + j % k = j := by rw [Nat.mul_comm]; exact Nat.div_add_mod j k
 have h1 := h.cell (j / k) (j % k) _ (List.getElem?_eq_getElem hd) hm
 rw [Nat.add_assoc, hjk] at h1
 rw [h1, ← hu, ← zlk h.wid (List.getElem?_eq_getElem hd) hm, hjk]
theorem Cells.rowsV {w : World} {s : Sl} {k : Nat} {l : List (Array Value)} (h : Cells w s k (zda l)) (hk : 0 < k) (hw : ∀ x, x ∈ l → x.size = k) : RowsV w s k l := by
 rw [zjd] at h
 have hs := zgx k l hw
 have hl : s.n = l.length := by
  have := h.len
  rw [Array.length_toList, hs] at this
  exact (Nat.eq_of_mul_eq_mul_right hk this).symm
 refine ⟨hl, h.cap, hw, fun i j x hx hj => ?_⟩
 have hi := (List.getElem?_eq_some_iff.1 hx).1
 have hxs : x.size = k := hw x (List.mem_of_getElem? hx)
 have hg := zlk hw hx hj
 rw [Nat.add_assoc, ← hg]
 have hij : i * k + j < (zd0 l).size := by
  rw [hs]
  have : (i + 1) * k ≤ l.length * k := Nat.mul_le_mul_right _ hi
  rw [Nat.add_mul] at this; omega
 rw [Array.getElem?_eq_getElem hij]
 exact h.cell _ _ (by rw [Array.getElem?_toList, Array.getElem?_eq_getElem hij])
theorem RowsV.kept {own : Nat → Prop} {w w' : World} {s : Sl} {k : Nat} {l : List (Array Value)} (h : RowsV w s k l) (o : Kept own w w') (hs : ¬ own s.b) : RowsV w' s k l := by
 refine ⟨h.len, h.cap, h.wid, fun i j x hx hj => ?_⟩
 have hc := h.cell i j x hx hj
 have hxs : x.size = k := h.wid x (List.mem_of_getElem? hx)
 rw [Array.getElem?_eq_getElem (by omega)] at hc
 rw [o.cell _ _ (zbd hc).1 hs, hc, Array.getElem?_eq_getElem (by omega)]
end Go.Proofs.YthfalocligkamaaGreatDoor
