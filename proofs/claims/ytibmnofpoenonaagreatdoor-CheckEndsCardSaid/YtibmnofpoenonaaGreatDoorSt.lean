/-
  States, as they stand in memory.
-/
import Derived.Test.YtibmnofpoenonaaGreatDoorSl
import Derived.Test.YtibmnofpoenonaaGreatDoorRows
namespace Go.Proofs.YtibmnofpoenonaaGreatDoor
open Go Go.RowKit

/-- A state's slices. -/
structure SV where
  objs : Sl
  list : Nat → Sl
/-- A state. -/
structure St where
  objs : List (List Int)
  list : Nat → List Int
  num : Nat → Int
/-- A state's cells. -/
def stA (V : SV) (num : Nat → Int) : Array Value := ((List.range 37).map fun i => if i = 0 then V.objs.val else if i < 12 then (V.list (i - 1)).val else I (num (i - 12))).toArray
/-- Its lists' cells. -/
def lsA (V : SV) : Array Value := ((List.range 11).map fun i => (V.list i).val).toArray
/-- Numbers from one on. -/
def numsL (num : Nat → Int) (o n : Nat) : List Int := (List.range n).map fun i => num (o + i)
@[go_sem] theorem numsL_len (num : Nat → Int) (o n : Nat) : (numsL num o n).length = n := by simp [numsL]
theorem numsL_at (num : Nat → Int) (o n i : Nat) (h : i < n) : gt (numsL num o n) i = num (o + i) := by simp [numsL, gt, h]

@[go_sem] theorem stA_size (V : SV) (num : Nat → Int) : (stA V num).size = 37 := by simp [stA]
@[go_sem] theorem stA_all (V : SV) (num : Nat → Int) : sub (stA V num) 0 37 = stA V num := by
  unfold sub
  rw [Nat.zero_add, ← stA_size V num, Array.extract_size]
@[go_sem] theorem stA_objs (V : SV) (num : Nat → Int) : (stA V num)[0]? = some V.objs.val := by simp [stA]
@[go_sem] theorem stA_list (V : SV) (num : Nat → Int) (z : Nat) (h : z < 11) : (stA V num)[1 + z]? = some (V.list z).val := by
  simp [stA, show 1 + z < 37 by omega, show 1 + z < 12 by omega]
@[go_sem] theorem stA_num (V : SV) (num : Nat → Int) (i : Nat) (h : i < 25) : (stA V num)[12 + i]? = some (I (num i)) := by
  simp [stA, show 12 + i < 37 by omega]
  intro h2; omega
@[go_sem] theorem stA_objs' (V : SV) (num : Nat → Int) (h : 0 < (stA V num).size) : (stA V num)[0]'h = V.objs.val := by
  have := stA_objs V num
  rw [Array.getElem?_eq_getElem h] at this
  exact Option.some.inj this
@[go_sem] theorem stA_list' (V : SV) (num : Nat → Int) (z : Nat) (h : 1 + z < (stA V num).size) (hz : z < 11) : (stA V num)[1 + z]'h = (V.list z).val := by
  have := stA_list V num z hz
  rw [Array.getElem?_eq_getElem h] at this
  exact Option.some.inj this
@[go_sem] theorem stA_num' (V : SV) (num : Nat → Int) (i : Nat) (h : 12 + i < (stA V num).size) : (stA V num)[12 + i]'h = I (num i) := by
  have hi : i < 25 := by rw [stA_size] at h; omega
  have := stA_num V num i hi
  rw [Array.getElem?_eq_getElem h] at this
  exact Option.some.inj this
@[go_sem] theorem stA_lists (V : SV) (num : Nat → Int) : sub (stA V num) 1 11 = lsA V := by
  unfold sub
  apply Array.ext_getElem?
  intro i
  rw [Array.getElem?_extract]
  by_cases h : i < 11
  · rw [if_pos (by simp [stA]; omega), stA_list V num i h]; simp [lsA, h]
  · rw [if_neg (by simp [stA]; omega), Array.getElem?_eq_none (by simp [lsA]; omega)]
theorem stA_nums (V : SV) (num : Nat → Int) (o n : Nat) (h : o + n ≤ 25) : sub (stA V num) (12 + o) n = cellsOf (numsL num o n) := by
  unfold sub
  apply Array.ext_getElem?
  intro i
  rw [Array.getElem?_extract]
  by_cases hi : i < n
  · rw [if_pos (by simp [stA]; omega), Nat.add_assoc, stA_num V num (o + i) (by omega), cellsOf_get _ _ (by rw [numsL_len]; omega), numsL_at _ _ _ _ hi]
  · rw [if_neg (by simp [stA]; omega), Array.getElem?_eq_none (by rw [cellsOf_size, numsL_len]; omega)]
@[go_sem] theorem stA_players (V : SV) (num : Nat → Int) : sub (stA V num) 12 18 = cellsOf (numsL num 0 18) := stA_nums V num 0 18 (by omega)
@[go_sem] theorem stA_game (V : SV) (num : Nat → Int) : sub (stA V num) 30 7 = cellsOf (numsL num 18 7) := stA_nums V num 18 7 (by omega)
@[go_sem] theorem lsA_size (V : SV) : (lsA V).size = 11 := by simp [lsA]
@[go_sem] theorem lsA_get (V : SV) (z : Nat) (h : z < 11) : (lsA V)[z]? = some (V.list z).val := by simp [lsA, h]
theorem val_oneCell (s : Sl) : s.val.oneCell' = true := by cases s <;> rfl
@[go_sem] theorem stA_oneCell (V : SV) (num : Nat → Int) : oneCells (stA V num) = true := by
  rw [oneCells, Array.all_eq_true]
  intro i hi
  simp only [stA, List.getElem_toArray, List.getElem_map, List.getElem_range]
  split
  · exact val_oneCell _
  · split
    · exact val_oneCell _
    · rfl

/-- A state stands so in memory. -/
structure RepSt (w : World) (V : SV) (S : St) : Prop where
  objs : Rows' w V.objs 18 S.objs
  list : ∀ z, z < 11 → Ints w (V.list z) (S.list z)
theorem RepSt.grow {w w' : World} {V : SV} {S : St} (h : RepSt w V S) (g : Grow w w') : RepSt w' V S := ⟨h.objs.grow g, fun z hz => (h.list z hz).grow g⟩

@[go_sem ↓] theorem load_State (ρ : Operand → Value) (dst : Option Tmp) (x : Operand) (ty : TypeId) (pos : String) (after : Array Edge) (guard : Option (Nat × Bool)) :
    execOp ρ { dst, op := .load 29 x, type := ty, pos, after, guard } = ldRow 29 (ρ x) := rfl
@[go_sem ↓] theorem store_State (ρ : Operand → Value) (dst : Option Tmp) (x y : Operand) (ty : TypeId) (pos : String) (after : Array Edge) (guard : Option (Nat × Bool)) :
    execOp ρ { dst, op := .store 29 x y, type := ty, pos, after, guard } = stRow 29 (ρ x) (ρ y) := rfl
@[go_sem] theorem run_load_State (w : World) (b o : Nat) (h : o + 37 ≤ (w.blk b).size) : (ldRow 29 (.pointer (some ⟨b, o, none⟩))).run Tryz.prog w = .ok (.value (.agg (sub (w.blk b) o 37))) w :=
  run_ldSub w b o 29 37 (by kernel_rfl) (by kernel_rfl) h (by omega)
@[go_sem] theorem run_store_State (w : World) (b : Nat) (cs : Array Value) (h : (w.blk b).size = 37) (hc : cs.size = 37) (h1 : oneCells cs = true) (hf : w.free b = true) : (stRow 29 (.pointer (some ⟨b, 0, none⟩)) (.agg cs)).run Tryz.prog w = .ok .skip (w.setRow b cs) :=
  run_stRow w b 29 37 _ (by kernel_rfl) h hc (by omega) hf h1
@[go_sem ↓] theorem load_Object (ρ : Operand → Value) (dst : Option Tmp) (x : Operand) (ty : TypeId) (pos : String) (after : Array Edge) (guard : Option (Nat × Bool)) :
    execOp ρ { dst, op := .load 49 x, type := ty, pos, after, guard } = ldRow 49 (ρ x) := rfl
@[go_sem ↓] theorem store_Object (ρ : Operand → Value) (dst : Option Tmp) (x y : Operand) (ty : TypeId) (pos : String) (after : Array Edge) (guard : Option (Nat × Bool)) :
    execOp ρ { dst, op := .store 49 x y, type := ty, pos, after, guard } = stRow 49 (ρ x) (ρ y) := rfl
@[go_sem] theorem run_load_Object (w : World) (b o : Nat) (h : o + 18 ≤ (w.blk b).size) : (ldRow 49 (.pointer (some ⟨b, o, none⟩))).run Tryz.prog w = .ok (.value (.agg (sub (w.blk b) o 18))) w :=
  run_ldSub w b o 49 18 (by kernel_rfl) (by kernel_rfl) h (by omega)
@[go_sem] theorem run_store_Object (w : World) (b : Nat) (cs : Array Value) (h : (w.blk b).size = 18) (hc : cs.size = 18) (h1 : oneCells cs = true) (hf : w.free b = true) : (stRow 49 (.pointer (some ⟨b, 0, none⟩)) (.agg cs)).run Tryz.prog w = .ok .skip (w.setRow b cs) :=
  run_stRow w b 49 18 _ (by kernel_rfl) h hc (by omega) hf h1
@[go_sem ↓] theorem load_Lists (ρ : Operand → Value) (dst : Option Tmp) (x : Operand) (ty : TypeId) (pos : String) (after : Array Edge) (guard : Option (Nat × Bool)) :
    execOp ρ { dst, op := .load 24 x, type := ty, pos, after, guard } = ldRow 24 (ρ x) := rfl
@[go_sem ↓] theorem store_Lists (ρ : Operand → Value) (dst : Option Tmp) (x y : Operand) (ty : TypeId) (pos : String) (after : Array Edge) (guard : Option (Nat × Bool)) :
    execOp ρ { dst, op := .store 24 x y, type := ty, pos, after, guard } = stRow 24 (ρ x) (ρ y) := rfl
@[go_sem] theorem run_load_Lists (w : World) (b o : Nat) (h : o + 11 ≤ (w.blk b).size) : (ldRow 24 (.pointer (some ⟨b, o, none⟩))).run Tryz.prog w = .ok (.value (.agg (sub (w.blk b) o 11))) w :=
  run_ldSub w b o 24 11 (by kernel_rfl) (by kernel_rfl) h (by omega)
@[go_sem] theorem run_store_Lists (w : World) (b : Nat) (cs : Array Value) (h : (w.blk b).size = 11) (hc : cs.size = 11) (h1 : oneCells cs = true) (hf : w.free b = true) : (stRow 24 (.pointer (some ⟨b, 0, none⟩)) (.agg cs)).run Tryz.prog w = .ok .skip (w.setRow b cs) :=
  run_stRow w b 24 11 _ (by kernel_rfl) h hc (by omega) hf h1
@[go_sem ↓] theorem storeS_ints (ρ : Operand → Value) (dst : Option Tmp) (x y : Operand) (ty : TypeId) (pos : String) (after : Array Edge) (guard : Option (Nat × Bool)) :
    execOp ρ { dst, op := .store 23 x y, type := ty, pos, after, guard } = stRow 23 (ρ x) (ρ y) := rfl
@[go_sem] theorem run_storeS_ints (w : World) (b o : Nat) (s : Sl) (h : (w.cell? ⟨b, o, none⟩).isSome = true) (hf : w.frozen? ⟨b, o, none⟩ = false) : (stRow 23 (.pointer (some ⟨b, o, none⟩)) s.val).run Tryz.prog w = .ok .skip (w.setCell ⟨b, o, none⟩ s.val) :=
  run_stSl w b o 23 s (by kernel_rfl) h hf
@[go_sem ↓] theorem storeS_objs (ρ : Operand → Value) (dst : Option Tmp) (x y : Operand) (ty : TypeId) (pos : String) (after : Array Edge) (guard : Option (Nat × Bool)) :
    execOp ρ { dst, op := .store 22 x y, type := ty, pos, after, guard } = stRow 22 (ρ x) (ρ y) := rfl
@[go_sem] theorem run_storeS_objs (w : World) (b o : Nat) (s : Sl) (h : (w.cell? ⟨b, o, none⟩).isSome = true) (hf : w.frozen? ⟨b, o, none⟩ = false) : (stRow 22 (.pointer (some ⟨b, o, none⟩)) s.val).run Tryz.prog w = .ok .skip (w.setCell ⟨b, o, none⟩ s.val) :=
  run_stSl w b o 22 s (by kernel_rfl) h hf
@[go_sem] theorem index_Lists (w : World) (V : SV) (q : IntKind) (i : Int) (h0 : 0 ≤ i) (h1 : i < 11) : (Instr.index 24 (.agg (lsA V)) (.int q i)).run Tryz.prog w = .ok (V.list i.toNat).val w := by
  have hs : (sizeOf 23).run Tryz.prog w = .ok 1 w := by kernel_rfl
  have ha : (isAgg 23).run Tryz.prog w = .ok false w := by kernel_rfl
  simp only [Instr.index, asIntOf, Sem.run_bind, Sem.run_pure, Result.andThen_ok, run_underlying Tryz.underlying24, h0, show i < ((11 : Nat) : Int) by omega, and_self, if_true, hs, Nat.mul_one, part, ha]
  rw [lsA_get V i.toNat (by omega)]
  rfl
@[go_sem] theorem indexAt_ints (w : World) (s : Sl) (q : IntKind) (i : Int) (h0 : 0 ≤ i) (h1 : i < s.n) : (Instr.indexAt 23 s.val (.int q i)).run Tryz.prog w = .ok (.pointer (some ⟨s.b, s.o + i.toNat, none⟩)) w := by
  rw [run_indexAt_sl w Tryz.underlying23 (fun w => (by kernel_rfl : (sizeOf 3).run Tryz.prog w = .ok 1 w)) s q i h0 h1, Nat.mul_one]
@[go_sem] theorem indexAt_objs (w : World) (s : Sl) (q : IntKind) (i : Int) (h0 : 0 ≤ i) (h1 : i < s.n) : (Instr.indexAt 22 s.val (.int q i)).run Tryz.prog w = .ok (.pointer (some ⟨s.b, s.o + i.toNat * 18, none⟩)) w :=
  run_indexAt_sl w Tryz.underlying22 (fun w => (by kernel_rfl : (sizeOf 49).run Tryz.prog w = .ok 18 w)) s q i h0 h1
end Go.Proofs.YtibmnofpoenonaaGreatDoor
