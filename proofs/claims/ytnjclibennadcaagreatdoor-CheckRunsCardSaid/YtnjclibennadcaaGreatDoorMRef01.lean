/-
  The document's bits: a number's bits, the number of bits, and a set with a number in it.
-/
import Derived.Test.YtnjclibennadcaaGreatDoorMSt
namespace Go.Proofs.YtnjclibennadcaaGreatDoor
open Go Go.RowKit

/-- The cells of a row of bools. -/
def bcells (l : List Bool) : Array Value := (l.map Value.bool).toArray
/-- The bool at a place; false where there is none. -/
def bt (l : List Bool) (i : Nat) : Bool := l.getD i false
@[go_sem] theorem bcells_size (l : List Bool) : (bcells l).size = l.length := by simp [bcells]
@[go_sem] theorem bcells_get (l : List Bool) (i : Nat) (h : i < l.length) : (bcells l)[i]? = some (.bool (bt l i)) := by simp [bcells, bt, h]
@[go_sem] theorem bcells_getElem (l : List Bool) (i : Nat) (h : i < (bcells l).size) : (bcells l)[i]'h = .bool (bt l i) := by
  have h' : i < l.length := by simpa [bcells] using h
  simp [bcells, bt, h']
@[go_sem] theorem bcells_set (l : List Bool) (i : Nat) (x : Bool) : (bcells l).setIfInBounds i (.bool x) = bcells (l.set i x) := by simp [bcells, List.map_set]
@[go_sem] theorem bcells_one (l : List Bool) : oneCells (bcells l) = true := by
  unfold oneCells bcells
  simp [Value.oneCell']
@[go_sem] theorem bcells_all (l : List Bool) (h : l.length = 64) : sub (bcells l) 0 64 = bcells l := by
  unfold sub
  have : (bcells l).size = 64 := by simp [bcells, h]
  rw [Nat.zero_add, ← this, Array.extract_size]
def noB : List Bool := List.replicate 64 false
@[go_sem] theorem noB_len : noB.length = 64 := by simp [noB]
@[go_sem] theorem cells_noB (t : TypeId) (fr : Nat × Nat) : Obj.cells #[Value.bool false, Value.bool false, Value.bool false, Value.bool false, Value.bool false, Value.bool false, Value.bool false, Value.bool false, Value.bool false, Value.bool false, Value.bool false, Value.bool false, Value.bool false, Value.bool false, Value.bool false, Value.bool false, Value.bool false, Value.bool false, Value.bool false, Value.bool false, Value.bool false, Value.bool false, Value.bool false, Value.bool false, Value.bool false, Value.bool false, Value.bool false, Value.bool false, Value.bool false, Value.bool false, Value.bool false, Value.bool false, Value.bool false, Value.bool false, Value.bool false, Value.bool false, Value.bool false, Value.bool false, Value.bool false, Value.bool false, Value.bool false, Value.bool false, Value.bool false, Value.bool false, Value.bool false, Value.bool false, Value.bool false, Value.bool false, Value.bool false, Value.bool false, Value.bool false, Value.bool false, Value.bool false, Value.bool false, Value.bool false, Value.bool false, Value.bool false, Value.bool false, Value.bool false, Value.bool false, Value.bool false, Value.bool false, Value.bool false, Value.bool false] t fr = .cells (bcells noB) t fr := rfl
@[go_sem ↓] theorem load_b64 (ρ : Operand → Value) (dst : Option Tmp) (x : Operand) (ty : TypeId) (pos : String) (after : Array Edge) (guard : Option (Nat × Bool)) :
    execOp ρ { dst, op := .load 206 x, type := ty, pos, after, guard } = ldRow 206 (ρ x) := rfl
@[go_sem ↓] theorem store_b64 (ρ : Operand → Value) (dst : Option Tmp) (x y : Operand) (ty : TypeId) (pos : String) (after : Array Edge) (guard : Option (Nat × Bool)) :
    execOp ρ { dst, op := .store 206 x y, type := ty, pos, after, guard } = stRow 206 (ρ x) (ρ y) := rfl
@[go_sem] theorem run_load_b64 (w : World) (b o : Nat) (h : o + 64 ≤ (w.blk b).size) : (ldRow 206 (.pointer (some ⟨b, o, none⟩))).run Tryz.prog w = .ok (.value (.agg (sub (w.blk b) o 64))) w :=
  run_ldSub w b o 206 64 (by kernel_rfl) (by kernel_rfl) h (by omega)
@[go_sem] theorem run_store_b64 (w : World) (b : Nat) (cs : Array Value) (h : (w.blk b).size = 64) (hc : cs.size = 64) (h1 : oneCells cs = true) (hf : w.free b = true) : (stRow 206 (.pointer (some ⟨b, 0, none⟩)) (.agg cs)).run Tryz.prog w = .ok .skip (w.setRow b cs) :=
  run_stRow w b 206 64 _ (by kernel_rfl) h hc (by omega) hf h1
theorem loadVar_b64 (w : World) (b : Nat) (h : (w.blk b).size = 64) : (loadVar 206 ⟨b, 0, none⟩).run Tryz.prog w = .ok (.agg (sub (w.blk b) 0 64)) w := by
  have := run_load_b64 w b 0 (by omega)
  unfold ldRow at this
  rw [Sem.run_bind] at this
  simp only [Instr.loadAt, Instr.sureAddr, Sem.run_bind, Sem.run_pure, Result.andThen_ok] at this
  cases hr : (loadVar 206 ⟨b, 0, none⟩).run Tryz.prog w with
  | ok v w' => rw [hr] at this; simp at this; rw [this.1, this.2]
  | halt x w' => rw [hr] at this; simp [Result.andThen] at this
theorem results_b64 {fn : Func} {p : Tmp} (h : fn.results = #[.cell p 206]) (tmps : Array Value) (w : World) (b : Nat) (hp : tmps.getD p undef = .pointer (some ⟨b, 0, none⟩)) (h1 : (w.blk b).size = 64) :
    (results fn tmps).run Tryz.prog w = .ok (.agg (sub (w.blk b) 0 64)) w := by
  unfold results
  rw [h]
  have e1 := loadVar_b64 w b h1
  have hp' : tmps[p]?.getD undef = .pointer (some ⟨b, 0, none⟩) := by simpa using hp
  simp [asAddr, hp', e1]
/-- A number's bits. -/
def bitsL (x : Nat) : List Bool := (List.range 64).map fun i => x / 2 ^ i % 2 == 1
/-- The first k of them, in a row that has no others. -/
def bitsTo (x : Nat) (k : Nat) : List Bool := (List.range 64).map fun i => decide (i < k) && x / 2 ^ i % 2 == 1
@[go_sem] theorem bitsTo_len (x k : Nat) : (bitsTo x k).length = 64 := by simp [bitsTo]
@[go_sem] theorem bitsL_len (x : Nat) : (bitsL x).length = 64 := by simp [bitsL]
theorem bitsTo_zero (x : Nat) : bitsTo x 0 = noB := by
  unfold bitsTo
  have : (fun i => decide (i < 0) && (x / 2 ^ i % 2 == 1)) = fun _ => false := by funext i; simp
  rw [this, List.map_const', List.length_range]; rfl
theorem bitsTo_succ (x k : Nat) (h : k < 64) : bitsTo x (k + 1) = (bitsTo x k).set k (x / 2 ^ k % 2 == 1) := by
  unfold bitsTo
  apply List.ext_getElem?
  intro i
  rw [List.getElem?_set]
  by_cases h2 : i < 64
  · by_cases e : k = i
    · subst e; simp [h]
    · rw [if_neg e]; simp [h2]
      have : (i < k + 1) ↔ (i < k) := by omega
      simp [this]
  · have : ¬ k = i := by omega
    rw [if_neg this]; simp [h2]
theorem bitsTo_all (x : Nat) : bitsTo x 64 = bitsL x := by
  unfold bitsTo bitsL
  apply List.map_congr_left
  intro i hi
  have := List.mem_range.1 hi
  simp [this]
theorem cast_odd (y : Nat) : ((y : Int) % 2 == 1) = (y % 2 == 1) := by
  rcases Nat.mod_two_eq_zero_or_one y with h | h <;> simp [h] <;> omega
set_option maxRecDepth 100000 in
set_option maxHeartbeats 1000000 in
theorem bits_any (w : World) (x : Nat) (hx : x < 18446744073709551616) :
    Calls Tryz.prog 192 #[.int .u64 (x : Int)] w fun e w' => e = .returned (.agg (bcells (bitsL x))) ∧ Grow w w' := by
  go_enter Tryz.func192, Tryz.ntmps192
  go_wp2_with fail
  go_loopw [0, 4] (fun v i wr => ∃ k : Nat, k ≤ 64 ∧ i = .int .i64 k ∧ v = .int .u64 ((x / 2 ^ k : Nat) : Int) ∧ wr = (w.alloc (.cells (bcells noB) 206)).alloc (.cells (bcells (bitsTo x k)) 206)) (fun _ i _ => 64 - (intOf i).toNat)
  case atStart => exact ⟨0, by omega, rfl, by simp, by rw [bitsTo_zero]⟩
  case round =>
    obtain ⟨k, hk, rfl, rfl, rfl⟩ := hrel
    by_cases hlt : k < 64
    · have HS := Lib.hid (bitsTo_succ x k hlt)
      have HD : Hid (x / 2 ^ k / 2 = x / 2 ^ (k + 1)) := by rw [Hid, Nat.div_div_eq_div_mul, Nat.pow_succ]
      have hq : x / 2 ^ k < 18446744073709551616 := Nat.lt_of_le_of_lt (Nat.div_le_self _ _) hx
      generalize hy : x / 2 ^ k = y at *
      clear hy
      go_wp2_with fail
      go_roundw
      case rel => exact ⟨k + 1, by omega, by go_num, by rw [← HD.out]; simp, by rw [HS.out, cast_odd]⟩
      case measure => simp [intOf]; omega
    · go_wp2_with fail
      have hkl : k = 64 := by omega
      subst hkl
      rw [bitsTo_all]
      refine bodyPost_ret (results_b64 (p := 2) rfl _ _ _ rfl (by go_simp)) rfl ?_
      exact ⟨by go_simp, grI⟩
theorem u64_wrap (x : Int) : IntKind.u64.wrap x = x % 18446744073709551616 := by
  unfold IntKind.wrap
  simp [IntKind.signed, IntKind.bits]
/-- The number of bits: the first k of them. -/
def ofTo (l : List Bool) : Nat → Nat
  | 0 => 0
  | k + 1 => ofTo l k + (if bt l k = true then 2 ^ k else 0)
theorem ofTo_lt (l : List Bool) : ∀ k, ofTo l k < 2 ^ k
  | 0 => by simp [ofTo]
  | k + 1 => by
    have := ofTo_lt l k
    rw [ofTo, Nat.pow_succ]
    split <;> omega
set_option maxRecDepth 100000 in
set_option maxHeartbeats 1000000 in
theorem bitsOf_any (w : World) (l : List Bool) (hl : l.length = 64) :
    Calls Tryz.prog 224 #[.agg (bcells l)] w fun e w' => e = .returned (.int .u64 (ofTo l 64 : Nat)) ∧ Grow w w' := by
  go_enter Tryz.func224, Tryz.ntmps224
  go_wp2_with fail
  go_loopw [3, 4, 5] (fun v p i wr => ∃ k : Nat, k ≤ 64 ∧ i = .int .i64 k ∧ v = .int .u64 ((ofTo l k : Nat) : Int) ∧ p = .int .u64 ((2 ^ k % 18446744073709551616 : Nat) : Int) ∧ wr = (w.alloc (.cells (bcells l) 206))) (fun _ _ i _ => 64 - (intOf i).toNat)
  case atStart => exact ⟨0, by omega, rfl, rfl, rfl, rfl⟩
  case round =>
    obtain ⟨k, hk, rfl, rfl, rfl, rfl⟩ := hrel
    by_cases hlt : k < 64
    · have HS : Hid (ofTo l (k + 1) = ofTo l k + (if bt l k = true then 2 ^ k else 0)) := rfl
      have h1 := ofTo_lt l (k + 1)
      have h2 : 2 ^ (k + 1) ≤ 2 ^ 64 := Nat.pow_le_pow_right (by omega) (by omega)
      have h3 : 2 ^ k < 2 ^ 64 := Nat.pow_lt_pow_right (by omega) hlt
      have h4 : 2 ^ (k + 1) = 2 ^ k * 2 := Nat.pow_succ _ _
      have hm : 2 ^ k % 18446744073709551616 = 2 ^ k := Nat.mod_eq_of_lt h3
      rw [hm]
      rw [h4] at h2
      have HP : Hid (2 ^ (k + 1) % 18446744073709551616 = 2 ^ k * 2 % 18446744073709551616) := by rw [Hid, h4]
      rw [HS.out, h4] at h1
      rw [show (2 : Nat) ^ 64 = 18446744073709551616 from rfl] at h2 h3
      clear hm h4
      generalize (2 : Nat) ^ k = p at *
      cases hb : bt l k with
      | true =>
        rw [hb, if_pos rfl] at HS h1
        go_wp2_with fail
        go_roundw
        case rel => exact ⟨k + 1, by omega, by go_num, by rw [HS.out]; simp, by rw [HP.out, u64_wrap]; simp, trivial⟩
        case measure => simp [intOf]; omega
      | false =>
        rw [hb, if_neg (by simp)] at HS h1
        go_wp2_with fail
        go_roundw
        case rel => exact ⟨k + 1, by omega, by go_num, by rw [HS.out]; simp, by rw [HP.out, u64_wrap]; simp, trivial⟩
        case measure => simp [intOf]; omega
    · go_wp2_with fail
      have hkl : k = 64 := by omega
      subst hkl
      go_ret
      exact ⟨rfl, grI⟩
/-- A set with a number in it, or not. -/
def setN (x : Nat) (i : Nat) (is : Bool) : Nat := ofTo ((bitsL x).set i is) 64
set_option maxRecDepth 100000 in
set_option maxHeartbeats 1000000 in
theorem set01_any (w : World) (x : Nat) (hx : x < 18446744073709551616) (i : Nat) (hi : i < 64) (is : Bool) :
    Calls Tryz.prog 193 #[.int .u64 (x : Int), .int .i64 (i : Int), .bool is] w fun e w' => e = .returned (.int .u64 (setN x i is : Nat)) ∧ Grow w w' := by
  have HB := Lib.hid (fun W => bits_any W x hx)
  have HO := Lib.hid (fun W => bitsOf_any W ((bitsL x).set i is) (by simp [bitsL]))
  go_enter Tryz.func193, Tryz.ntmps193
  go_wp2_with (first | (go_at_call 192; refine (HB.out _).mono ?_; rintro e' w' ⟨rfl, nx, rfl⟩) | (go_at_call 224; refine (HO.out _).mono ?_; rintro e' w' ⟨rfl, nx, rfl⟩))
  go_ret
  exact ⟨rfl, grI⟩
/-- Words with the first k bits of a number, or without them. -/
def turnTo (x n : Nat) (is : Bool) : Nat → Nat
  | 0 => x
  | k + 1 => if bt (bitsL n) k = true then setN (turnTo x n is k) k is else turnTo x n is k
theorem turnTo_lt (x n : Nat) (is : Bool) (hx : x < 18446744073709551616) : ∀ k, turnTo x n is k < 18446744073709551616
  | 0 => hx
  | k + 1 => by
    rw [turnTo]
    split
    · exact ofTo_lt _ 64
    · exact turnTo_lt x n is hx k
set_option maxRecDepth 100000 in
set_option maxHeartbeats 1000000 in
theorem turned_any (w : World) (x : Nat) (hx : x < 18446744073709551616) (n : Nat) (hn : n < 9223372036854775808) (is : Bool) :
    Calls Tryz.prog 136 #[.int .u64 (x : Int), .int .i64 (n : Int), .bool is] w fun e w' => e = .returned (.int .u64 (turnTo x n is 8 : Nat)) ∧ Grow w w' := by
  have HB := Lib.hid (fun W => bits_any W n (by omega))
  have HT := Lib.hid (turnTo_lt x n is hx)
  have HS0 : Hid (∀ k, turnTo x n is (k + 1) = if bt (bitsL n) k = true then setN (turnTo x n is k) k is else turnTo x n is k) := fun _ => rfl
  have hbl : (bitsL n).length = 64 := by simp [bitsL]
  generalize bitsL n = bl at *
  go_enter Tryz.func136, Tryz.ntmps136
  go_wp2_with (go_at_call 192; refine (HB.out _).mono ?_; rintro e' w' ⟨rfl, nx, rfl⟩)
  go_loopw [0, 8] (fun v i wr => ∃ k : Nat, k ≤ 8 ∧ i = .int .i64 k ∧ v = .int .u64 ((turnTo x n is k : Nat) : Int) ∧ Grow ((w.plus nx).alloc (.cells (bcells bl) 206)) wr) (fun _ i _ => 8 - (intOf i).toNat)
  case atStart => exact ⟨0, by omega, rfl, rfl, grI⟩
  case round =>
    obtain ⟨k, hk, rfl, rfl, X, rfl⟩ := hrel
    by_cases hlt : k < 8
    · have HS := Lib.hid (HS0.out k)
      have hx1 := HT.out k
      have HSet := Lib.hid (fun W => set01_any W (turnTo x n is k) hx1 k (by omega) is)
      clear hx1
      have hq : (((w.plus nx).alloc (.cells (bcells bl) 206)).plus X).cell? ⟨w.heap.size + nx.objs.size, k, none⟩ = some (.bool (bt bl k)) := by go_simp; rw [bcells_get _ _ (by omega)]
      cases hb : bt bl k with
      | true =>
        rw [hb, if_pos rfl] at HS
        rw [hb] at hq
        generalize turnTo x n is k = y at *
        go_wp2_with (go_at_call 193; refine (HSet.out _).mono ?_; rintro e' w' ⟨rfl, nx, rfl⟩)
        go_roundw
        case rel => exact ⟨k + 1, by omega, by go_num, by rw [HS.out], grI⟩
        case measure => simp [intOf]; omega
      | false =>
        rw [hb, if_neg (by simp)] at HS
        rw [hb] at hq
        go_wp2_with fail
        go_roundw
        case rel => exact ⟨k + 1, by omega, by go_num, by rw [HS.out], grI⟩
        case measure => simp [intOf]; omega
    · go_wp2_with fail
      have hkl : k = 8 := by omega
      subst hkl
      go_ret
      exact ⟨rfl, grI⟩
/-! ### In plain words -/
theorem ofTo_testBit (l : List Bool) : ∀ (k i : Nat), (ofTo l k).testBit i = (decide (i < k) && bt l i)
  | 0, i => by simp [ofTo]
  | k + 1, i => by
    have h1 := ofTo_lt l k
    have h2 := ofTo_testBit l k i
    rw [ofTo]
    cases hb : bt l k with
    | true =>
      rw [if_pos rfl, Nat.add_comm]
      rcases Nat.lt_trichotomy i k with hi | hi | hi
      · rw [Nat.testBit_two_pow_add_gt hi, h2]; simp [hi, Nat.lt_succ_of_lt hi]
      · subst hi; rw [Nat.testBit_two_pow_add_eq, h2]; simp [hb]
      · have : 2 ^ k + ofTo l k < 2 ^ i := Nat.lt_of_lt_of_le (show _ < 2 ^ (k + 1) by rw [Nat.pow_succ]; omega) (Nat.pow_le_pow_right (by omega) hi)
        rw [Nat.testBit_lt_two_pow this]
        have : ¬ i < k + 1 := by omega
        simp [this]
    | false =>
      rw [if_neg (by simp), Nat.add_zero, h2]
      by_cases hi : i = k
      · subst hi; simp [hb]
      · have : (i < k + 1) ↔ (i < k) := by omega
        simp [this]
theorem bitsL_at (x i : Nat) (h : i < 64) : bt (bitsL x) i = x.testBit i := by
  unfold bt bitsL
  rw [List.getD_eq_getElem?_getD]
  simp [h, Nat.testBit_eq_decide_div_mod_eq]
  rfl
theorem setN_testBit (x k i : Nat) (is : Bool) (hx : x < 18446744073709551616) (hk : k < 64) : (setN x k is).testBit i = if i = k then is else x.testBit i := by
  unfold setN
  rw [ofTo_testBit]
  by_cases hi : i < 64
  · simp only [hi, decide_true, Bool.true_and]
    unfold bt
    rw [List.getD_eq_getElem?_getD, List.getElem?_set]
    by_cases e : k = i
    · subst e; rw [if_pos rfl, if_pos (by simp [bitsL, hk]), if_pos rfl]; rfl
    · rw [if_neg e, if_neg (fun h => e h.symm), ← bitsL_at x i hi]; rfl
  · have : x.testBit i = false := Nat.testBit_lt_two_pow (Nat.lt_of_lt_of_le hx (by rw [show (18446744073709551616 : Nat) = 2 ^ 64 from rfl]; exact Nat.pow_le_pow_right (by omega) (by omega)))
    rw [if_neg (by omega), this]; simp [hi]
theorem turnTo_testBit (x n : Nat) (is : Bool) (hx : x < 18446744073709551616) : ∀ (k i : Nat), k ≤ 8 → (turnTo x n is k).testBit i = if i < k ∧ n.testBit i = true then is else x.testBit i
  | 0, i, _ => by simp [turnTo]
  | k + 1, i, hk => by
    have h1 := turnTo_testBit x n is hx k i (by omega)
    rw [turnTo, bitsL_at _ _ (by omega)]
    by_cases hb : n.testBit k = true
    · rw [if_pos hb, setN_testBit _ _ _ _ (turnTo_lt x n is hx k) (by omega), h1]
      by_cases e : i = k
      · subst e; rw [if_pos rfl, if_pos ⟨by omega, hb⟩]
      · rw [if_neg e]
        by_cases c : i < k ∧ n.testBit i = true
        · rw [if_pos c, if_pos ⟨by omega, c.2⟩]
        · rw [if_neg c, if_neg (fun d => c ⟨by omega, d.2⟩)]
    · rw [if_neg hb, h1]
      by_cases c : i < k ∧ n.testBit i = true
      · rw [if_pos c, if_pos ⟨by omega, c.2⟩]
      · rw [if_neg c, if_neg (fun d => c ⟨by rcases Nat.lt_succ_iff_lt_or_eq.1 d.1 with h | h; exact h; subst h; exact absurd d.2 hb, d.2⟩)]
/-- Words with those of a small number: the bits of both. -/
theorem turn_or (x n : Nat) (hx : x < 18446744073709551616) (hn : n < 256) : turnTo x n true 8 = x ||| n := by
  apply Nat.eq_of_testBit_eq
  intro i
  rw [turnTo_testBit x n true hx 8 i (by omega), Nat.testBit_or]
  by_cases h : i < 8
  · by_cases hb : n.testBit i = true
    · rw [if_pos ⟨h, hb⟩, hb]; simp
    · rw [if_neg (fun d => hb d.2)]; simp at hb; simp [hb]
  · have : n.testBit i = false := Nat.testBit_lt_two_pow (Nat.lt_of_lt_of_le hn (by rw [show (256 : Nat) = 2 ^ 8 from rfl]; exact Nat.pow_le_pow_right (by omega) (by omega)))
    rw [if_neg (fun d => h d.1), this]; simp
end Go.Proofs.YtnjclibennadcaaGreatDoor
