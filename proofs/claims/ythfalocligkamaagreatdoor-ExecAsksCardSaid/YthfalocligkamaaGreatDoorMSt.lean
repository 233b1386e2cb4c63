/- States, as they stand in memory. -/
import Derived.Test.YthfalocligkamaaGreatDoorMPlus
import Derived.Test.YthfalocligkamaaGreatDoorRows
import Derived.Test.YthfalocligkamaaGreatDoorLay
import Derived.Shelf.SlicesE.Clone
import Derived.Ground.SlgnProg
import Derived.BigRegion
namespace Go.Proofs.YthfalocligkamaaGreatDoor
open Go Go.RowKit
structure SV where
 objs : Sl
 list : Nat → Sl
structure St where
 objs : List (List Int)
 list : Nat → List Int
 num : Nat → Int
def stA (V : SV) (num : Nat → Int) : Array Value := ((List.range 37).map fun i => if i = 0 then V.objs.val else if i < 12 then (V.list (i - 1)).val else I (num (i - 12))).toArray
def lsA (V : SV) : Array Value := ((List.range 11).map fun i => (V.list i).val).toArray
def zc7 (num : Nat → Int) (o n : Nat) : List Int := (List.range n).map fun i => num (o + i)
@[go_sem] theorem zd3 (num : Nat → Int) (o n : Nat) : (zc7 num o n).length = n := by simp [zc7]
theorem zej (num : Nat → Int) (o n i : Nat) (h : i < n) : gt (zc7 num o n) i = num (o + i) := by simp [zc7, gt, h]
@[go_sem] theorem zcm (V : SV) (num : Nat → Int) : (stA V num).size = 37 := by simp [stA]
@[go_sem] theorem yhp (V : SV) (num : Nat → Int) : sub (stA V num) 0 37 = stA V num := by
 unfold sub
 rw [Nat.zero_add, ← zcm V num, Array.extract_size]
@[go_sem] theorem zra (V : SV) (num : Nat → Int) : (stA V num)[0]? = some V.objs.val := by simp [stA]
@[go_sem] theorem zcd (V : SV) (num : Nat → Int) (z : Nat) (h : z < 11) : (stA V num)[1 + z]? = some (V.list z).val := by
 simp [stA, show 1 + z < 37 by omega, show 1 + z < 12 by omega]
@[go_sem] theorem za7 (V : SV) (num : Nat → Int) (i : Nat) (h : i < 25) : (stA V num)[12 + i]? = some (I (num i)) := by
 simp [stA, show 12 + i < 37 by omega]
 intro h2; omega
@[go_sem] theorem zyt (V : SV) (num : Nat → Int) (h : 0 < (stA V num).size) : (stA V num)[0]'h = V.objs.val := by
 have := zra V num
 rw [Array.getElem?_eq_getElem h] at this
 exact Option.some.inj this
@[go_sem] theorem zys (V : SV) (num : Nat → Int) (z : Nat) (h : 1 + z < (stA V num).size) (hz : z < 11) : (stA V num)[1 + z]'h = (V.list z).val := by
 have := zcd V num z hz
 rw [Array.getElem?_eq_getElem h] at this
 exact Option.some.inj this
@[go_sem] theorem z4a (V : SV) (num : Nat → Int) (i : Nat) (h : 12 + i < (stA V num).size) : (stA V num)[12 + i]'h = I (num i) := by
 have hi : i < 25 := by rw [zcm] at h; omega
 have := za7 V num i hi
 rw [Array.getElem?_eq_getElem h] at this
 exact Option.some.inj this
@[go_sem] theorem ydp (V : SV) (num : Nat → Int) : sub (stA V num) 1 11 = lsA V := by
 unfold sub
 apply Array.ext_getElem?
 intro i
 rw [Array.getElem?_extract]
 by_cases h : i < 11
 · rw [if_pos (by simp [stA]; omega), zcd V num i h]; simp [lsA, h]
 · rw [if_neg (by simp [stA]; omega), Array.getElem?_eq_none (by simp [lsA]; omega)]
theorem zhm (V : SV) (num : Nat → Int) (o n : Nat) (h : o + n ≤ 25) : sub (stA V num) (12 + o) n = cellsOf (zc7 num o n) := by
 unfold sub
 apply Array.ext_getElem?
 intro i
 rw [Array.getElem?_extract]
 by_cases hi : i < n
 · rw [if_pos (by simp [stA]; omega), Nat.add_assoc, za7 V num (o + i) (by omega), za5 _ _ (by rw [zd3]; omega), zej _ _ _ _ hi]
 · rw [if_neg (by simp [stA]; omega), Array.getElem?_eq_none (by rw [zb8, zd3]; omega)]
@[go_sem] theorem z8x (V : SV) (num : Nat → Int) : sub (stA V num) 12 18 = cellsOf (zc7 num 0 18) := zhm V num 0 18 (by omega)
@[go_sem] theorem yfu (V : SV) (num : Nat → Int) : sub (stA V num) 30 7 = cellsOf (zc7 num 18 7) := zhm V num 18 7 (by omega)
@[go_sem] theorem ye4 (V : SV) : (lsA V).size = 11 := by simp [lsA]
@[go_sem] theorem z7u (V : SV) (z : Nat) (h : z < 11) : (lsA V)[z]? = some (V.list z).val := by simp [lsA, h]
theorem val_oneCell (s : Sl) : s.val.oneCell' = true := by cases s <;> rfl
@[go_sem] theorem z8w (V : SV) (num : Nat → Int) : zai (stA V num) = true := by
 rw [zai, Array.all_eq_true]
 intro i hi
 simp only [stA, List.getElem_toArray, List.getElem_map, List.getElem_range]
 split
 · exact val_oneCell _
 · split
   · exact val_oneCell _
   · rfl
structure RepSt (w : World) (V : SV) (S : St) : Prop where
 objs : Rows' w V.objs 18 S.objs
 list : ∀ z, z < 11 → Ints w (V.list z) (S.list z)
theorem RepSt.grow {w w' : World} {V : SV} {S : St} (h : RepSt w V S) (g : Grow w w') : RepSt w' V S := ⟨h.objs.grow g, fun z hz => (h.list z hz).grow g⟩
@[go_sem ↓] theorem z90 (ρ : Operand → Value) (dst : Option Tmp) (x : Operand) (ty : TypeId) (pos : String) (after : Array Edge) (guard : Option (Nat × Bool)) :
 execOp ρ { dst, op := .load 29 x, type := ty, pos, after, guard } = za3 29 (ρ x) := rfl
@[go_sem ↓] theorem z85 (ρ : Operand → Value) (dst : Option Tmp) (x y : Operand) (ty : TypeId) (pos : String) (after : Array Edge) (guard : Option (Nat × Bool)) :
 execOp ρ { dst, op := .store 29 x y, type := ty, pos, after, guard } = zaz 29 (ρ x) (ρ y) := rfl
@[go_sem] theorem zkk (w : World) (b o : Nat) (h : o + 37 ≤ (w.blk b).size) : (za3 29 (.pointer (some ⟨b, o, none⟩))).run Tryz.prog w = .ok (.value (.agg (sub (w.blk b) o 37))) w :=
 zaw w b o 29 37 (by kernel_rfl) (by kernel_rfl) h (by omega)
@[go_sem] theorem zyb (w : World) (b : Nat) (cs : Array Value) (h : (w.blk b).size = 37) (hc : cs.size = 37) (h1 : zai cs = true) (hf : w.free b = true) : (zaz 29 (.pointer (some ⟨b, 0, none⟩)) (.agg cs)).run Tryz.prog w = .ok .skip (w.setRow b cs) :=
 zax w b 29 37 _ (by kernel_rfl) h hc (by omega) hf h1
@[go_sem ↓] theorem z7r (ρ : Operand → Value) (dst : Option Tmp) (x : Operand) (ty : TypeId) (pos : String) (after : Array Edge) (guard : Option (Nat × Bool)) :
 execOp ρ { dst, op := .load 57 x, type := ty, pos, after, guard } = za3 57 (ρ x) := rfl
@[go_sem ↓] theorem z55 (ρ : Operand → Value) (dst : Option Tmp) (x y : Operand) (ty : TypeId) (pos : String) (after : Array Edge) (guard : Option (Nat × Bool)) :
 execOp ρ { dst, op := .store 57 x y, type := ty, pos, after, guard } = zaz 57 (ρ x) (ρ y) := rfl
@[go_sem] theorem zjx (w : World) (b o : Nat) (h : o + 18 ≤ (w.blk b).size) : (za3 57 (.pointer (some ⟨b, o, none⟩))).run Tryz.prog w = .ok (.value (.agg (sub (w.blk b) o 18))) w :=
 zaw w b o 57 18 (by kernel_rfl) (by kernel_rfl) h (by omega)
@[go_sem] theorem zu6 (w : World) (b : Nat) (cs : Array Value) (h : (w.blk b).size = 18) (hc : cs.size = 18) (h1 : zai cs = true) (hf : w.free b = true) : (zaz 57 (.pointer (some ⟨b, 0, none⟩)) (.agg cs)).run Tryz.prog w = .ok .skip (w.setRow b cs) :=
 zax w b 57 18 _ (by kernel_rfl) h hc (by omega) hf h1
@[go_sem ↓] theorem z9y (ρ : Operand → Value) (dst : Option Tmp) (x : Operand) (ty : TypeId) (pos : String) (after : Array Edge) (guard : Option (Nat × Bool)) :
 execOp ρ { dst, op := .load 24 x, type := ty, pos, after, guard } = za3 24 (ρ x) := rfl
@[go_sem ↓] theorem z83 (ρ : Operand → Value) (dst : Option Tmp) (x y : Operand) (ty : TypeId) (pos : String) (after : Array Edge) (guard : Option (Nat × Bool)) :
 execOp ρ { dst, op := .store 24 x y, type := ty, pos, after, guard } = zaz 24 (ρ x) (ρ y) := rfl
@[go_sem] theorem zzy (w : World) (b o : Nat) (h : o + 11 ≤ (w.blk b).size) : (za3 24 (.pointer (some ⟨b, o, none⟩))).run Tryz.prog w = .ok (.value (.agg (sub (w.blk b) o 11))) w :=
 zaw w b o 24 11 (by kernel_rfl) (by kernel_rfl) h (by omega)
@[go_sem] theorem zx9 (w : World) (b : Nat) (cs : Array Value) (h : (w.blk b).size = 11) (hc : cs.size = 11) (h1 : zai cs = true) (hf : w.free b = true) : (zaz 24 (.pointer (some ⟨b, 0, none⟩)) (.agg cs)).run Tryz.prog w = .ok .skip (w.setRow b cs) :=
 zax w b 24 11 _ (by kernel_rfl) h hc (by omega) hf h1
@[go_sem ↓] theorem z80 (ρ : Operand → Value) (dst : Option Tmp) (x y : Operand) (ty : TypeId) (pos : String) (after : Array Edge) (guard : Option (Nat × Bool)) :
 execOp ρ { dst, op := .store 23 x y, type := ty, pos, after, guard } = zaz 23 (ρ x) (ρ y) := rfl
@[go_sem] theorem zx3 (w : World) (b o : Nat) (s : Sl) (h : (w.cell? ⟨b, o, none⟩).isSome = true) (hf : w.frozen? ⟨b, o, none⟩ = false) : (zaz 23 (.pointer (some ⟨b, o, none⟩)) s.val).run Tryz.prog w = .ok .skip (w.setCell ⟨b, o, none⟩ s.val) :=
 zcf w b o 23 s (by kernel_rfl) h hf
@[go_sem ↓] theorem z81 (ρ : Operand → Value) (dst : Option Tmp) (x y : Operand) (ty : TypeId) (pos : String) (after : Array Edge) (guard : Option (Nat × Bool)) :
 execOp ρ { dst, op := .store 22 x y, type := ty, pos, after, guard } = zaz 22 (ρ x) (ρ y) := rfl
@[go_sem] theorem zx4 (w : World) (b o : Nat) (s : Sl) (h : (w.cell? ⟨b, o, none⟩).isSome = true) (hf : w.frozen? ⟨b, o, none⟩ = false) : (zaz 22 (.pointer (some ⟨b, o, none⟩)) s.val).run Tryz.prog w = .ok .skip (w.setCell ⟨b, o, none⟩ s.val) :=
 zcf w b o 22 s (by kernel_rfl) h hf
@[go_sem] theorem z7k (w : World) (V : SV) (q : IntKind) (i : Int) (h0 : 0 ≤ i) (h1 : i < 11) : (Instr.index 24 (.agg (lsA V)) (.int q i)).run Tryz.prog w = .ok (V.list i.toNat).val w := by
 have hs : (sizeOf 23).run Tryz.prog w = .ok 1 w := by kernel_rfl
 have ha : (isAgg 23).run Tryz.prog w = .ok false w := by kernel_rfl
 simp only [Instr.index, asIntOf, Sem.run_bind, Sem.run_pure, Result.andThen_ok, run_underlying Tryz.underlying24, h0, show i < ((11 : Nat) : Int) by omega, and_self, if_true, hs, Nat.mul_one, part, ha]
 rw [z7u V i.toNat (by omega)]
 rfl
@[go_sem] theorem z5j (w : World) (s : Sl) (q : IntKind) (i : Int) (h0 : 0 ≤ i) (h1 : i < s.n) : (Instr.indexAt 23 s.val (.int q i)).run Tryz.prog w = .ok (.pointer (some ⟨s.b, s.o + i.toNat, none⟩)) w := by
 rw [zbh w Tryz.underlying23 (fun w => (by kernel_rfl : (sizeOf 3).run Tryz.prog w = .ok 1 w)) s q i h0 h1, Nat.mul_one]
@[go_sem] theorem z5k (w : World) (s : Sl) (q : IntKind) (i : Int) (h0 : 0 ≤ i) (h1 : i < s.n) : (Instr.indexAt 22 s.val (.int q i)).run Tryz.prog w = .ok (.pointer (some ⟨s.b, s.o + i.toNat * 18, none⟩)) w :=
 zbh w Tryz.underlying22 (fun w => (by kernel_rfl : (sizeOf 57).run Tryz.prog w = .ok 18 w)) s q i h0 h1
end Go.Proofs.YthfalocligkamaaGreatDoor
namespace Go.Proofs.YthfalocligkamaaGreatDoor
open Go Go.RowKit
def zea (l : List (List Int)) : List Value := (l.flatten).map I
theorem zln (k : Nat) : ∀ (l : List (List Int)), (∀ i, i < l.length → (rowAt l i).length = k) → l.flatten.length = l.length * k ∧ ∀ i j, i < l.length → j < k → gt l.flatten (i * k + j) = gt (rowAt l i) j
 | [], _ => ⟨by simp, fun i j hi => by cases hi⟩
 | r :: l, h => by
   have h0 : r.length = k := h 0 (by simp)
   obtain ⟨h1, h2⟩ := zln k l (fun i hi => h (i + 1) (by simpa using hi))
   refine ⟨by rw [List.flatten_cons, List.length_append, h1, h0, List.length_cons, Nat.add_mul]; omega, fun i j hi hj => ?_⟩
   cases i with
   | zero =>
     rw [Nat.zero_mul, Nat.zero_add, List.flatten_cons]
     simp only [gt, List.getD, rowAt, List.getElem?_cons_zero, Option.getD_some]
     rw [List.getElem?_append_left (by omega)]
   | succ i =>
     have h3 := h2 i j (by simpa using hi) hj
     simp only [gt, List.getD, rowAt, List.getElem?_cons_succ, List.flatten_cons] at h3 ⊢
     rw [List.getElem?_append_right (by rw [h0, Nat.add_mul]; omega), ← h3, h0]
     congr 2
     rw [Nat.add_mul]; omega
section
variable (w : World)
theorem zau (l : List Int) : ∀ u ∈ l.map I, u.oneCell' = true := by
 intro u hu
 obtain ⟨x, _, rfl⟩ := List.mem_map.1 hu
 rfl
theorem zck (l : List (List Int)) : ∀ u ∈ zea l, u.oneCell' = true := zau l.flatten
end
end Go.Proofs.YthfalocligkamaaGreatDoor
namespace Go.Proofs.YthfalocligkamaaGreatDoor
open Go Go.RowKit
theorem zaa (w : World) (o : Obj) : (w.alloc o).heap.size = w.heap.size + 1 := by unfold World.alloc; exact Array.size_push _
structure Off (b : Nat) (W W' : World) : Prop where
 size : W'.heap.size = W.heap.size
 block : ∀ k, k ≠ b → W'.heap[k]? = W.heap[k]?
theorem Off.base (w : World) (o p : Obj) (b : Nat) (h : b = w.heap.size) : Off b (w.alloc o) (w.alloc p) := by
 subst h
 refine ⟨by rw [zaa, zaa], fun k hk => ?_⟩
 simp only [World.alloc, Array.getElem?_push, if_neg hk]
theorem Off.alloc {b : Nat} {W W' : World} (h : Off b W W') (o : Obj) : Off b (W.alloc o) (W'.alloc o) := by
 refine ⟨by rw [zaa, zaa, h.size], fun k hk => ?_⟩
 simp only [World.alloc, Array.getElem?_push, h.size]
 split
 · rfl
 · exact h.block k hk
theorem Off.plus {b : Nat} {W W' : World} (h : Off b W W') (x : Ext) : Off b (W.plus x) (W'.plus x) := by
 refine ⟨by simp [World.plus, h.size], fun k hk => ?_⟩
 simp only [World.plus, Array.getElem?_append, h.size]
 split
 · exact h.block k hk
 · rfl
theorem Ints.off {b : Nat} {W W' : World} {s : Sl} {l : List Int} (h : Ints W s l) (o : Off b W W') (hs : 0 < l.length → s.b ≠ b) : Ints W' s l :=
 ⟨h.len, h.cap, fun i hi => by rw [World.cell?_of_block (o.block s.b (hs (by omega)))]; exact h.cell i hi⟩
theorem Rows'.off {b k : Nat} {W W' : World} {s : Sl} {l : List (List Int)} (h : Rows' W s k l) (o : Off b W W') (hs : 0 < l.length → s.b ≠ b) : Rows' W' s k l :=
 ⟨h.len, h.cap, h.wid, fun i j hi hj => by rw [World.cell?_of_block (o.block s.b (hs (by omega)))]; exact h.cell i j hi hj⟩
def upd {α : Type} (f : Nat → α) (z : Nat) (x : α) : Nat → α := fun i => if i = z then x else f i
theorem zbo {α : Type} (f : Nat → α) (z : Nat) (x : α) : upd f z x z = x := by simp [upd]
theorem zco {α : Type} (f : Nat → α) (z i : Nat) (x : α) (h : i ≠ z) : upd f z x i = f i := by simp [upd, h]
@[go_sem] theorem zp3 (V : SV) (num : Nat → Int) (s : Sl) : (stA V num).setIfInBounds 0 s.val = stA { V with objs := s } num := by
 apply Array.ext_getElem?
 intro i
 rw [Array.getElem?_setIfInBounds]
 by_cases h : 0 = i
 · subst h; simp [stA]
 · rw [if_neg h]
   simp only [stA, List.getElem?_toArray, List.getElem?_map]
   by_cases h2 : i < 37
   · simp [h2, Ne.symm h]
   · simp [h2]
@[go_sem] theorem zbq (V : SV) (num : Nat → Int) (z : Nat) (s : Sl) (hz : z < 11) : (stA V num).setIfInBounds (1 + z) s.val = stA { V with list := upd V.list z s } num := by
 apply Array.ext_getElem?
 intro i
 rw [Array.getElem?_setIfInBounds]
 by_cases h : 1 + z = i
 · subst h
   rw [if_pos rfl, if_pos (by simp [stA]; omega)]
   simp [stA, show 1 + z < 37 by omega, show 1 + z < 12 by omega, upd]
 · rw [if_neg h]
   simp only [stA, List.getElem?_toArray, List.getElem?_map]
   by_cases h2 : i < 37
   · rw [List.getElem?_eq_getElem (by simpa using h2)]
     simp only [List.getElem_range, Option.map_some]
     congr 1
     by_cases h0 : i = 0
     · simp [h0]
     · by_cases h12 : i < 12
       · simp [h0, h12, upd, show ¬ i - 1 = z by omega]
       · simp [h0, h12]
   · simp [h2]
theorem zlz (w : World) (b : Nat) (h : (w.blk b).size = 37) : (loadVar 29 ⟨b, 0, none⟩).run Tryz.prog w = .ok (.agg (sub (w.blk b) 0 37)) w := by
 have := zkk w b 0 (by omega)
 unfold za3 at this
 rw [Sem.run_bind] at this
 simp only [Instr.loadAt, Instr.sureAddr, Sem.run_bind, Sem.run_pure, Result.andThen_ok] at this
 cases hr : (loadVar 29 ⟨b, 0, none⟩).run Tryz.prog w with
 | ok v w' => rw [hr] at this; simp at this; rw [this.1, this.2]
 | halt x w' => rw [hr] at this; simp [Result.andThen] at this
theorem zhi {fn : Func} {p : Tmp} (h : fn.results = #[.cell p 29]) (tmps : Array Value) (w : World) (b : Nat) (hp : tmps.getD p undef = .pointer (some ⟨b, 0, none⟩)) (h1 : (w.blk b).size = 37) :
 (results fn tmps).run Tryz.prog w = .ok (.agg (sub (w.blk b) 0 37)) w := by
 unfold results
 rw [h]
 have e1 := zlz w b h1
 have hp' : tmps[p]?.getD undef = .pointer (some ⟨b, 0, none⟩) := by simpa using hp
 simp [asAddr, hp', e1]
def SV.zero : SV := ⟨.nil, fun _ => .nil⟩
@[go_sem] theorem z47 (t : TypeId) (fr : Nat × Nat) : Obj.cells #[.slice none 0 0, .slice none 0 0, .slice none 0 0, .slice none 0 0, .slice none 0 0, .slice none 0 0, .slice none 0 0, .slice none 0 0, .slice none 0 0, .slice none 0 0, .slice none 0 0, .slice none 0 0, .int .i64 0, .int .i64 0, .int .i64 0, .int .i64 0, .int .i64 0, .int .i64 0, .int .i64 0, .int .i64 0, .int .i64 0, .int .i64 0, .int .i64 0, .int .i64 0, .int .i64 0, .int .i64 0, .int .i64 0, .int .i64 0, .int .i64 0, .int .i64 0, .int .i64 0, .int .i64 0, .int .i64 0, .int .i64 0, .int .i64 0, .int .i64 0, .int .i64 0] t fr = .cells (stA SV.zero fun _ => 0) t fr := by rfl
structure Small (S : St) : Prop where
 objs : S.objs.length ≤ 1048576
 list : ∀ z, z < 11 → (S.list z).length ≤ 1048576
end Go.Proofs.YthfalocligkamaaGreatDoor
namespace Go.Proofs.YthfalocligkamaaGreatDoor
open Go Go.RowKit
@[go_sem ↓] theorem z91 (ρ : Operand → Value) (dst : Option Tmp) (x : Operand) (ty : TypeId) (pos : String) (after : Array Edge) (guard : Option (Nat × Bool)) :
 execOp ρ { dst, op := .load 125 x, type := ty, pos, after, guard } = za3 125 (ρ x) := rfl
@[go_sem ↓] theorem z86 (ρ : Operand → Value) (dst : Option Tmp) (x y : Operand) (ty : TypeId) (pos : String) (after : Array Edge) (guard : Option (Nat × Bool)) :
 execOp ρ { dst, op := .store 125 x y, type := ty, pos, after, guard } = zaz 125 (ρ x) (ρ y) := rfl
@[go_sem] theorem zzz (w : World) (b o : Nat) (h : o + 2 ≤ (w.blk b).size) : (za3 125 (.pointer (some ⟨b, o, none⟩))).run Tryz.prog w = .ok (.value (.agg (sub (w.blk b) o 2))) w :=
 zaw w b o 125 2 (by kernel_rfl) (by kernel_rfl) h (by omega)
@[go_sem] theorem zyc (w : World) (b : Nat) (cs : Array Value) (h : (w.blk b).size = 2) (hc : cs.size = 2) (h1 : zai cs = true) (hf : w.free b = true) : (zaz 125 (.pointer (some ⟨b, 0, none⟩)) (.agg cs)).run Tryz.prog w = .ok .skip (w.setRow b cs) :=
 zax w b 125 2 _ (by kernel_rfl) h hc (by omega) hf h1
@[go_sem ↓] theorem z2i (ρ : Operand → Value) (dst : Option Tmp) (x : Operand) (ty : TypeId) (pos : String) (after : Array Edge) (guard : Option (Nat × Bool)) :
 execOp ρ { dst, op := .load 126 x, type := ty, pos, after, guard } = za3 126 (ρ x) := rfl
@[go_sem ↓] theorem z0a (ρ : Operand → Value) (dst : Option Tmp) (x y : Operand) (ty : TypeId) (pos : String) (after : Array Edge) (guard : Option (Nat × Bool)) :
 execOp ρ { dst, op := .store 126 x y, type := ty, pos, after, guard } = zaz 126 (ρ x) (ρ y) := rfl
@[go_sem] theorem zh1 (w : World) (b o : Nat) (h : o + 36 ≤ (w.blk b).size) : (za3 126 (.pointer (some ⟨b, o, none⟩))).run Tryz.prog w = .ok (.value (.agg (sub (w.blk b) o 36))) w :=
 zaw w b o 126 36 (by kernel_rfl) (by kernel_rfl) h (by omega)
@[go_sem] theorem zq8 (w : World) (b : Nat) (cs : Array Value) (h : (w.blk b).size = 36) (hc : cs.size = 36) (h1 : zai cs = true) (hf : w.free b = true) : (zaz 126 (.pointer (some ⟨b, 0, none⟩)) (.agg cs)).run Tryz.prog w = .ok .skip (w.setRow b cs) :=
 zax w b 126 36 _ (by kernel_rfl) h hc (by omega) hf h1
@[go_sem ↓] theorem z5r (ρ : Operand → Value) (dst : Option Tmp) (x : Operand) (ty : TypeId) (pos : String) (after : Array Edge) (guard : Option (Nat × Bool)) :
 execOp ρ { dst, op := .load 128 x, type := ty, pos, after, guard } = za3 128 (ρ x) := rfl
@[go_sem ↓] theorem z4g (ρ : Operand → Value) (dst : Option Tmp) (x y : Operand) (ty : TypeId) (pos : String) (after : Array Edge) (guard : Option (Nat × Bool)) :
 execOp ρ { dst, op := .store 128 x y, type := ty, pos, after, guard } = zaz 128 (ρ x) (ρ y) := rfl
@[go_sem] theorem zio (w : World) (b o : Nat) (h : o + 18 ≤ (w.blk b).size) : (za3 128 (.pointer (some ⟨b, o, none⟩))).run Tryz.prog w = .ok (.value (.agg (sub (w.blk b) o 18))) w :=
 zaw w b o 128 18 (by kernel_rfl) (by kernel_rfl) h (by omega)
@[go_sem] theorem ztv (w : World) (b : Nat) (cs : Array Value) (h : (w.blk b).size = 18) (hc : cs.size = 18) (h1 : zai cs = true) (hf : w.free b = true) : (zaz 128 (.pointer (some ⟨b, 0, none⟩)) (.agg cs)).run Tryz.prog w = .ok .skip (w.setRow b cs) :=
 zax w b 128 18 _ (by kernel_rfl) h hc (by omega) hf h1
@[go_sem ↓] theorem z5q (ρ : Operand → Value) (dst : Option Tmp) (x : Operand) (ty : TypeId) (pos : String) (after : Array Edge) (guard : Option (Nat × Bool)) :
 execOp ρ { dst, op := .load 130 x, type := ty, pos, after, guard } = za3 130 (ρ x) := rfl
@[go_sem ↓] theorem z4f (ρ : Operand → Value) (dst : Option Tmp) (x y : Operand) (ty : TypeId) (pos : String) (after : Array Edge) (guard : Option (Nat × Bool)) :
 execOp ρ { dst, op := .store 130 x y, type := ty, pos, after, guard } = zaz 130 (ρ x) (ρ y) := rfl
@[go_sem] theorem zin (w : World) (b o : Nat) (h : o + 14 ≤ (w.blk b).size) : (za3 130 (.pointer (some ⟨b, o, none⟩))).run Tryz.prog w = .ok (.value (.agg (sub (w.blk b) o 14))) w :=
 zaw w b o 130 14 (by kernel_rfl) (by kernel_rfl) h (by omega)
@[go_sem] theorem ztu (w : World) (b : Nat) (cs : Array Value) (h : (w.blk b).size = 14) (hc : cs.size = 14) (h1 : zai cs = true) (hf : w.free b = true) : (zaz 130 (.pointer (some ⟨b, 0, none⟩)) (.agg cs)).run Tryz.prog w = .ok .skip (w.setRow b cs) :=
 zax w b 130 14 _ (by kernel_rfl) h hc (by omega) hf h1
def inB (x a b : Int) : Bool := decide (a ≤ x) && decide (x ≤ b)
theorem zhw (a b x : Int) (w : World) :
 Calls Tryz.prog 90 #[.agg (cellsOf [a, b]), .int .i64 x] w fun e w' => e = .returned (.bool (inB x a b)) ∧ Grow w w' := by
 have h0 : gt [a, b] 0 = a := rfl
 have h1 : gt [a, b] 1 = b := rfl
 by_cases hax : a ≤ x
 · go_enter Tryz.func90, Tryz.ntmps90
   go_wp2_with fail
   go_ret
   exact ⟨zao (by simp [inB, hax]), grI⟩
 · go_enter Tryz.func90, Tryz.ntmps90
   go_wp2_with fail
   go_ret
   exact ⟨zao (by simp [inB]; omega), grI⟩
theorem zx1 {P : Program} (w : World) (b o : Nat) (ty : TypeId) (x y : Int) (hi : (P.info? ty).map (·.size) = some 2) (h : o + 2 ≤ (w.blk b).size) (hf : w.free b = true) :
 (zaz ty (.pointer (some ⟨b, o, none⟩)) (.agg (cellsOf [x, y]))).run P w = .ok .skip ((w.setCell ⟨b, o, none⟩ (I x)).setCell ⟨b, o + 1, none⟩ (I y)) := by
 unfold zaz
 cases ho : w.heap[b]? with
 | none => simp [World.blk, ho] at h
 | some q =>
   cases q <;> try (simp [World.blk, ho] at h; done)
   rename_i c t f
   simp [World.blk, ho] at h
   simp [World.free, ho] at hf
   subst hf
   rw [Sem.run_bind]
   have hth : w.there b o (cellsOf [x, y]).size := by
    intro j hj
    simp [cellsOf] at hj
    refine ⟨?_, ?_⟩
    · simp [World.cell?, ho, show o + j < c.size by omega]
    · simp [World.frozen?, ho]
   rw [run_storeAt_mid (P := P) w b o ty (cellsOf [x, y]) hth (by rw [hi]; rfl) (zff _)]
   rfl
@[go_sem] theorem zu9 (w : World) (b o : Nat) (x y : Int) (h : o + 2 ≤ (w.blk b).size) (hf : w.free b = true) : (zaz 125 (.pointer (some ⟨b, o, none⟩)) (.agg (cellsOf [x, y]))).run Tryz.prog w = .ok .skip ((w.setCell ⟨b, o, none⟩ (I x)).setCell ⟨b, o + 1, none⟩ (I y)) :=
 zx1 w b o 125 x y (by kernel_rfl) h hf
theorem zpb (w : World) (b : Nat) (h : (w.blk b).size = 36) : (loadVar 126 ⟨b, 0, none⟩).run Tryz.prog w = .ok (.agg (sub (w.blk b) 0 36)) w := by
 have := zh1 w b 0 (by omega)
 unfold za3 at this
 rw [Sem.run_bind] at this
 simp only [Instr.loadAt, Instr.sureAddr, Sem.run_bind, Sem.run_pure, Result.andThen_ok] at this
 cases hr : (loadVar 126 ⟨b, 0, none⟩).run Tryz.prog w with
 | ok v w' => rw [hr] at this; simp at this; rw [this.1, this.2]
 | halt x w' => rw [hr] at this; simp [Result.andThen] at this
theorem zpr {fn : Func} {p : Tmp} (h : fn.results = #[.cell p 126]) (tmps : Array Value) (w : World) (b : Nat) (hp : tmps.getD p undef = .pointer (some ⟨b, 0, none⟩)) (h1 : (w.blk b).size = 36) :
 (results fn tmps).run Tryz.prog w = .ok (.agg (sub (w.blk b) 0 36)) w := by
 unfold results
 rw [h]
 have e1 := zpb w b h1
 have hp' : tmps[p]?.getD undef = .pointer (some ⟨b, 0, none⟩) := by simpa using hp
 simp [asAddr, hp', e1]
theorem zsy (w : World) (b : Nat) (h : (w.blk b).size = 18) : (loadVar 128 ⟨b, 0, none⟩).run Tryz.prog w = .ok (.agg (sub (w.blk b) 0 18)) w := by
 have := zio w b 0 (by omega)
 unfold za3 at this
 rw [Sem.run_bind] at this
 simp only [Instr.loadAt, Instr.sureAddr, Sem.run_bind, Sem.run_pure, Result.andThen_ok] at this
 cases hr : (loadVar 128 ⟨b, 0, none⟩).run Tryz.prog w with
 | ok v w' => rw [hr] at this; simp at this; rw [this.1, this.2]
 | halt x w' => rw [hr] at this; simp [Result.andThen] at this
theorem ztd {fn : Func} {p : Tmp} (h : fn.results = #[.cell p 128]) (tmps : Array Value) (w : World) (b : Nat) (hp : tmps.getD p undef = .pointer (some ⟨b, 0, none⟩)) (h1 : (w.blk b).size = 18) :
 (results fn tmps).run Tryz.prog w = .ok (.agg (sub (w.blk b) 0 18)) w := by
 unfold results
 rw [h]
 have e1 := zsy w b h1
 have hp' : tmps[p]?.getD undef = .pointer (some ⟨b, 0, none⟩) := by simpa using hp
 simp [asAddr, hp', e1]
theorem zsx (w : World) (b : Nat) (h : (w.blk b).size = 14) : (loadVar 130 ⟨b, 0, none⟩).run Tryz.prog w = .ok (.agg (sub (w.blk b) 0 14)) w := by
 have := zin w b 0 (by omega)
 unfold za3 at this
 rw [Sem.run_bind] at this
 simp only [Instr.loadAt, Instr.sureAddr, Sem.run_bind, Sem.run_pure, Result.andThen_ok] at this
 cases hr : (loadVar 130 ⟨b, 0, none⟩).run Tryz.prog w with
 | ok v w' => rw [hr] at this; simp at this; rw [this.1, this.2]
 | halt x w' => rw [hr] at this; simp [Result.andThen] at this
theorem ztc {fn : Func} {p : Tmp} (h : fn.results = #[.cell p 130]) (tmps : Array Value) (w : World) (b : Nat) (hp : tmps.getD p undef = .pointer (some ⟨b, 0, none⟩)) (h1 : (w.blk b).size = 14) :
 (results fn tmps).run Tryz.prog w = .ok (.agg (sub (w.blk b) 0 14)) w := by
 unfold results
 rw [h]
 have e1 := zsx w b h1
 have hp' : tmps[p]?.getD undef = .pointer (some ⟨b, 0, none⟩) := by simpa using hp
 simp [asAddr, hp', e1]
structure Glob (w : World) : Prop where
 size : 0 < w.heap.size ∧ 2 < w.heap.size ∧ 3 < w.heap.size
 resting : w.blk 0 = cellsOf [4, 5, 6, 7, 8, 9, 10, 11, 12]
 flag : w.blk 2 = cellsOf [0, 1]
 any : w.blk 3 = cellsOf [-1073741824, 1073741824]
theorem zfu {w w' : World} {b : Nat} (h : Grow w w') (hb : b < w.heap.size) : w'.blk b = w.blk b := by
 obtain ⟨x, rfl⟩ := h
 simp only [World.blk, zev w x b hb]
theorem Grow.size {w w' : World} (h : Grow w w') : w.heap.size ≤ w'.heap.size := by
 obtain ⟨x, rfl⟩ := h
 rw [zac]; omega
theorem Glob.grow {w w' : World} (h : Glob w) (g : Grow w w') : Glob w' := by
 have := h.size
 exact ⟨⟨Nat.lt_of_lt_of_le h.size.1 g.size, Nat.lt_of_lt_of_le h.size.2.1 g.size, Nat.lt_of_lt_of_le h.size.2.2 g.size⟩, by rw [zfu g (by omega), h.resting], by rw [zfu g (by omega), h.flag], by rw [zfu g (by omega), h.any]⟩
def zal (n : Int) : List Int := [0, 119, 0, 1, 0, 1, 0, 10, 0, 1, 0, 1, 0, 1073741824, 0, 1073741824, -1073741824, 1073741824, -1073741824, 1073741824, 0, 255, 0, 1, 0, n, 0, 2, 0, 3, 0, n, -2, n, 0, 3]
def plBounds : List Int := [-1073741824, 1073741824, 0, 1000, 0, 1000, 0, 1000, 0, 1000, 0, 1000, 0, 1000, 0, 1, 0, 1]
def gmBounds : List Int := [0, 1073741824, 0, 1, 0, 7, 0, 1, 0, 1, 0, 4096, 0, 3]
@[go_sem ↓] theorem ydz (ρ : Operand → Value) (dst : Option Tmp) (parts : Array (Nat × Operand)) (ty : TypeId) (pos : String) (after : Array Edge) (guard : Option (Nat × Bool)) :
 execOp ρ { dst, op := .build 130 parts, type := ty, pos, after, guard } = za0 130 (parts.map fun (i, x) => (i, ρ x)) := rfl
set_option maxRecDepth 100000 in
@[go_sem] theorem z5y (w : World) (a0 b0 a1 b1 a2 b2 a3 b3 a4 b4 a5 b5 a6 b6 : Int) :
 (za0 130 #[(0, .agg (cellsOf [a0, b0])), (1, .agg (cellsOf [a1, b1])), (2, .agg (cellsOf [a2, b2])), (3, .agg (cellsOf [a3, b3])), (4, .agg (cellsOf [a4, b4])), (5, .agg (cellsOf [a5, b5])), (6, .agg (cellsOf [a6, b6]))]).run Tryz.prog w
   = .ok (.value (.agg (cellsOf [a0, b0, a1, b1, a2, b2, a3, b3, a4, b4, a5, b5, a6, b6]))) w := by
 kernel_rfl
@[go_sem ↓] theorem yal (ρ : Operand → Value) (dst : Option Tmp) (parts : Array (Nat × Operand)) (ty : TypeId) (pos : String) (after : Array Edge) (guard : Option (Nat × Bool)) :
 execOp ρ { dst, op := .build 126 parts, type := ty, pos, after, guard } = za0 126 (parts.map fun (i, x) => (i, ρ x)) := rfl
set_option maxRecDepth 100000 in
@[go_sem] theorem z21 (w : World) (a0 b0 a1 b1 a2 b2 a3 b3 a4 b4 a5 b5 a6 b6 a7 b7 a8 b8 a9 b9 a10 b10 a11 b11 a12 b12 a13 b13 a14 b14 a15 b15 a16 b16 a17 b17 : Int) :
 (za0 126 #[(0, .agg (cellsOf [a0, b0])), (1, .agg (cellsOf [a1, b1])), (2, .agg (cellsOf [a2, b2])), (3, .agg (cellsOf [a3, b3])), (4, .agg (cellsOf [a4, b4])), (5, .agg (cellsOf [a5, b5])), (6, .agg (cellsOf [a6, b6])), (7, .agg (cellsOf [a7, b7])), (8, .agg (cellsOf [a8, b8])), (9, .agg (cellsOf [a9, b9])), (10, .agg (cellsOf [a10, b10])), (11, .agg (cellsOf [a11, b11])), (12, .agg (cellsOf [a12, b12])), (13, .agg (cellsOf [a13, b13])), (14, .agg (cellsOf [a14, b14])), (15, .agg (cellsOf [a15, b15])), (16, .agg (cellsOf [a16, b16])), (17, .agg (cellsOf [a17, b17]))]).run Tryz.prog w
   = .ok (.value (.agg (cellsOf [a0, b0, a1, b1, a2, b2, a3, b3, a4, b4, a5, b5, a6, b6, a7, b7, a8, b8, a9, b9, a10, b10, a11, b11, a12, b12, a13, b13, a14, b14, a15, b15, a16, b16, a17, b17]))) w := by
 kernel_rfl
set_option maxRecDepth 100000 in
theorem z08 (w : World) (G : Glob w) :
 Calls Tryz.prog 92 #[] w fun e w' => e = .returned (.agg (cellsOf gmBounds)) ∧ Grow w w' := by
 obtain ⟨⟨ga, gb, gc⟩, g1, g2, g3⟩ := G; have nz0 : ¬ (w).heap.size = 0 := (by omega); have zn0 : ¬ 0 = (w).heap.size := (by omega); have nz1 : ¬ (w).heap.size = 2 := (by omega); have zn1 : ¬ 2 = (w).heap.size := (by omega); have nz2 : ¬ (w).heap.size = 3 := (by omega); have zn2 : ¬ 3 = (w).heap.size := (by omega)
 go_enter Tryz.func92, Tryz.ntmps92
 go_wp2_with fail
 refine bodyPost_ret (ztc rfl _ _ w.heap.size rfl ?_) rfl ?_
 · go_simp
 · exact ⟨by go_simp; rfl, grI⟩
set_option maxRecDepth 100000 in
theorem zph (n : Int) (w : World) (G : Glob w) :
 Calls Tryz.prog 89 #[.int .i64 n] w fun e w' => e = .returned (.agg (cellsOf (zal n))) ∧ Grow w w' := by
 obtain ⟨⟨ga, gb, gc⟩, g1, g2, g3⟩ := G; have nz0 : ¬ (w).heap.size = 0 := (by omega); have zn0 : ¬ 0 = (w).heap.size := (by omega); have nz1 : ¬ (w).heap.size = 2 := (by omega); have zn1 : ¬ 2 = (w).heap.size := (by omega); have nz2 : ¬ (w).heap.size = 3 := (by omega); have zn2 : ¬ 3 = (w).heap.size := (by omega)
 go_enter Tryz.func89, Tryz.ntmps89
 go_wp2_with fail
 refine bodyPost_ret (zpr rfl _ _ w.heap.size rfl ?_) rfl ?_
 · go_simp
 · exact ⟨by go_simp; rfl, grI⟩
def ycs : Nat → List Int
 | 0 => List.replicate 18 0
 | k + 1 => ((ycs k).set (k * 2) 0).set (k * 2 + 1) 1000
theorem zqz : ∀ k, (ycs k).length = 18
 | 0 => rfl
 | k + 1 => by rw [ycs, List.length_set, List.length_set, zqz k]
set_option maxRecDepth 100000 in
set_option maxHeartbeats 2000000 in
theorem zpk (w : World) (G : Glob w) :
 Calls Tryz.prog 91 #[] w fun e w' => e = .returned (.agg (cellsOf plBounds)) ∧ Grow w w' := by
 obtain ⟨⟨ga, gb, gc⟩, g1, g2, g3⟩ := G; have nz0 : ¬ (w).heap.size = 0 := (by omega); have zn0 : ¬ 0 = (w).heap.size := (by omega); have nz1 : ¬ (w).heap.size = 2 := (by omega); have zn1 : ¬ 2 = (w).heap.size := (by omega); have nz2 : ¬ (w).heap.size = 3 := (by omega); have zn2 : ¬ 3 = (w).heap.size := (by omega)
 go_enter Tryz.func91, Tryz.ntmps91
 go_wp2_with fail
 go_loopw [2, 3] (fun _ i wr => ∃ k : Nat, k ≤ 9 ∧ i = .int .i64 k ∧ wr = (w.alloc (.cells (cellsOf (List.replicate 18 0)) 128)).alloc (.cells (cellsOf (ycs k)) 128)) (fun _ i _ => 9 - (intOf i).toNat)
 case atStart => exact ⟨0, by omega, rfl, rfl⟩
 case round =>
  obtain ⟨k, hk, rfl, rfl⟩ := hrel
  have hl := zqz k
  by_cases hlt : k < 9
  · have hk2 : k * 2 + 2 ≤ 18 := by omega
    go_wp2_with fail
    exact ⟨⟨k + 1, by omega, by go_num, rfl⟩, by simp [intOf]; omega⟩
  · go_wp2_with fail
    go_region
    have hp : Hid (((((((ycs k).set 0 (-1073741824)).set 1 1073741824).set 14 0).set 15 1).set 16 0).set 17 1 = plBounds) := by rw [Hid, show k = 9 by omega]; rfl
    go_wp2_with fail
    refine bodyPost_ret (ztd rfl _ _ w.heap.size rfl ?_) rfl ?_
    · go_simp
    · exact ⟨by rw [← hp.out]; go_simp, grI⟩
end Go.Proofs.YthfalocligkamaaGreatDoor
