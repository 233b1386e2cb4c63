/-
  The walk of state's ranges.
-/
import Derived.Test.YtibmnofpoenonaaGreatDoorBound
import Derived.Test.YtibmnofpoenonaaGreatDoorEq
import Derived.Test.YtibmnofpoenonaaGreatDoorTail
namespace Go.Proofs.YtibmnofpoenonaaGreatDoor
open Go Go.RowKit

@[go_sem] theorem sub_two (c : List Int) (o : Nat) (h : o + 2 ≤ c.length) : sub (cellsOf c) o 2 = cellsOf [gt c o, gt c (o + 1)] := by
  unfold sub
  apply Array.ext_getElem?
  intro i
  rw [Array.getElem?_extract]
  match i with
  | 0 => rw [if_pos (by rw [cellsOf_size]; omega), Nat.add_zero, cellsOf_get _ _ (by omega)]; rfl
  | 1 => rw [if_pos (by rw [cellsOf_size]; omega), cellsOf_get _ _ (by omega)]; rfl
  | n + 2 => rw [if_neg (by omega), Array.getElem?_eq_none (by simp [cellsOf])]
@[go_sem] theorem gt_two0 (a b : Int) : gt [a, b] 0 = a := rfl
@[go_sem] theorem gt_two1 (a b : Int) : gt [a, b] 1 = b := rfl
theorem sub_nums (num : Nat → Int) (o n a b : Nat) (h : a + b ≤ n) : sub (cellsOf (numsL num o n)) a b = cellsOf (numsL num (o + a) b) := by
  unfold sub
  apply Array.ext_getElem?
  intro i
  rw [Array.getElem?_extract]
  by_cases hi : i < b
  · rw [if_pos (by rw [cellsOf_size, numsL_len]; omega), cellsOf_get _ _ (by rw [numsL_len]; omega), cellsOf_get _ _ (by rw [numsL_len]; omega), numsL_at _ _ _ _ (by omega), numsL_at _ _ _ _ hi, Nat.add_assoc]
  · rw [if_neg (by omega), Array.getElem?_eq_none (by rw [cellsOf_size, numsL_len]; omega)]
theorem run_index_part {P : Program} (w : World) (T e n k : Nat) (hT : P.underlying T = some (.array n e)) (ha : ∀ w, (isAgg e).run P w = .ok true w) (hs : ∀ w, (sizeOf e).run P w = .ok k w) (cs : Array Value) (q : IntKind) (i : Int) (h0 : 0 ≤ i) (h1 : i < n) :
    (Instr.index T (.agg cs) (.int q i)).run P w = .ok (.agg (sub cs (i.toNat * k) k)) w := by
  simp only [Instr.index, asIntOf, Sem.run_bind, Sem.run_pure, Result.andThen_ok, run_underlying hT, h0, h1, and_self, if_true, hs, part, ha, sub]
@[go_sem] theorem index_Object (w : World) (c : List Int) (hc : c.length = 18) (k : IntKind) (i : Int) (h0 : 0 ≤ i) (h1 : i < 18) : (Instr.index 49 (.agg (cellsOf c)) (.int k i)).run Tryz.prog w = .ok (I (gt c i.toNat)) w :=
  run_index_ints w 49 3 18 Tryz.underlying49 Tryz.underlying3 (by kernel_rfl) c hc k i h0 h1
@[go_sem] theorem index_players (w : World) (cs : Array Value) (q : IntKind) (i : Int) (h0 : 0 ≤ i) (h1 : i < 2) : (Instr.index 26 (.agg cs) (.int q i)).run Tryz.prog w = .ok (.agg (sub cs (i.toNat * 9) 9)) w :=
  run_index_part w 26 25 2 9 Tryz.underlying26 (fun w => by kernel_rfl) (fun w => by kernel_rfl) cs q i h0 h1
@[go_sem] theorem index_b9 (w : World) (cs : Array Value) (q : IntKind) (i : Int) (h0 : 0 ≤ i) (h1 : i < 9) : (Instr.index 117 (.agg cs) (.int q i)).run Tryz.prog w = .ok (.agg (sub cs (i.toNat * 2) 2)) w :=
  run_index_part w 117 113 9 2 Tryz.underlying117 (fun w => by kernel_rfl) (fun w => by kernel_rfl) cs q i h0 h1
@[go_sem] theorem index_b7 (w : World) (cs : Array Value) (q : IntKind) (i : Int) (h0 : 0 ≤ i) (h1 : i < 7) : (Instr.index 119 (.agg cs) (.int q i)).run Tryz.prog w = .ok (.agg (sub cs (i.toNat * 2) 2)) w :=
  run_index_part w 119 113 7 2 Tryz.underlying119 (fun w => by kernel_rfl) (fun w => by kernel_rfl) cs q i h0 h1
@[go_sem ↓] theorem load_players (ρ : Operand → Value) (dst : Option Tmp) (x : Operand) (ty : TypeId) (pos : String) (after : Array Edge) (guard : Option (Nat × Bool)) :
    execOp ρ { dst, op := .load 26 x, type := ty, pos, after, guard } = ldRow 26 (ρ x) := rfl
@[go_sem ↓] theorem store_players (ρ : Operand → Value) (dst : Option Tmp) (x y : Operand) (ty : TypeId) (pos : String) (after : Array Edge) (guard : Option (Nat × Bool)) :
    execOp ρ { dst, op := .store 26 x y, type := ty, pos, after, guard } = stRow 26 (ρ x) (ρ y) := rfl
@[go_sem] theorem run_load_players (w : World) (b o : Nat) (h : o + 18 ≤ (w.blk b).size) : (ldRow 26 (.pointer (some ⟨b, o, none⟩))).run Tryz.prog w = .ok (.value (.agg (sub (w.blk b) o 18))) w :=
  run_ldSub w b o 26 18 (by kernel_rfl) (by kernel_rfl) h (by omega)
@[go_sem] theorem run_store_players (w : World) (b : Nat) (cs : Array Value) (h : (w.blk b).size = 18) (hc : cs.size = 18) (h1 : oneCells cs = true) (hf : w.free b = true) : (stRow 26 (.pointer (some ⟨b, 0, none⟩)) (.agg cs)).run Tryz.prog w = .ok .skip (w.setRow b cs) :=
  run_stRow w b 26 18 _ (by kernel_rfl) h hc (by omega) hf h1
@[go_sem ↓] theorem load_nine (ρ : Operand → Value) (dst : Option Tmp) (x : Operand) (ty : TypeId) (pos : String) (after : Array Edge) (guard : Option (Nat × Bool)) :
    execOp ρ { dst, op := .load 25 x, type := ty, pos, after, guard } = ldRow 25 (ρ x) := rfl
@[go_sem ↓] theorem store_nine (ρ : Operand → Value) (dst : Option Tmp) (x y : Operand) (ty : TypeId) (pos : String) (after : Array Edge) (guard : Option (Nat × Bool)) :
    execOp ρ { dst, op := .store 25 x y, type := ty, pos, after, guard } = stRow 25 (ρ x) (ρ y) := rfl
@[go_sem] theorem run_load_nine (w : World) (b o : Nat) (h : o + 9 ≤ (w.blk b).size) : (ldRow 25 (.pointer (some ⟨b, o, none⟩))).run Tryz.prog w = .ok (.value (.agg (sub (w.blk b) o 9))) w :=
  run_ldSub w b o 25 9 (by kernel_rfl) (by kernel_rfl) h (by omega)
@[go_sem] theorem run_store_nine (w : World) (b : Nat) (cs : Array Value) (h : (w.blk b).size = 9) (hc : cs.size = 9) (h1 : oneCells cs = true) (hf : w.free b = true) : (stRow 25 (.pointer (some ⟨b, 0, none⟩)) (.agg cs)).run Tryz.prog w = .ok .skip (w.setRow b cs) :=
  run_stRow w b 25 9 _ (by kernel_rfl) h hc (by omega) hf h1
@[go_sem ↓] theorem load_seven (ρ : Operand → Value) (dst : Option Tmp) (x : Operand) (ty : TypeId) (pos : String) (after : Array Edge) (guard : Option (Nat × Bool)) :
    execOp ρ { dst, op := .load 27 x, type := ty, pos, after, guard } = ldRow 27 (ρ x) := rfl
@[go_sem ↓] theorem store_seven (ρ : Operand → Value) (dst : Option Tmp) (x y : Operand) (ty : TypeId) (pos : String) (after : Array Edge) (guard : Option (Nat × Bool)) :
    execOp ρ { dst, op := .store 27 x y, type := ty, pos, after, guard } = stRow 27 (ρ x) (ρ y) := rfl
@[go_sem] theorem run_load_seven (w : World) (b o : Nat) (h : o + 7 ≤ (w.blk b).size) : (ldRow 27 (.pointer (some ⟨b, o, none⟩))).run Tryz.prog w = .ok (.value (.agg (sub (w.blk b) o 7))) w :=
  run_ldSub w b o 27 7 (by kernel_rfl) (by kernel_rfl) h (by omega)
@[go_sem] theorem run_store_seven (w : World) (b : Nat) (cs : Array Value) (h : (w.blk b).size = 7) (hc : cs.size = 7) (h1 : oneCells cs = true) (hf : w.free b = true) : (stRow 27 (.pointer (some ⟨b, 0, none⟩)) (.agg cs)).run Tryz.prog w = .ok .skip (w.setRow b cs) :=
  run_stRow w b 27 7 _ (by kernel_rfl) h hc (by omega) hf h1

/-- Are the first k numbers within their bounds? -/
def okTo (bs o : List Int) (k : Nat) : Bool := (List.range k).all fun f => inB (gt o f) (gt bs (f * 2)) (gt bs (f * 2 + 1))
theorem okTo_succ (bs o : List Int) (k : Nat) : okTo bs o (k + 1) = (okTo bs o k && inB (gt o k) (gt bs (k * 2)) (gt bs (k * 2 + 1))) := by
  simp [okTo, List.range_succ]
theorem okTo_bad (bs o : List Int) (k n : Nat) (hk : k < n) (h : inB (gt o k) (gt bs (k * 2)) (gt bs (k * 2 + 1)) = false) : okTo bs o n = false := by
  rw [okTo, List.all_eq_false]
  exact ⟨k, List.mem_range.2 hk, by simp [h]⟩
def objsOK (S : St) (k : Nat) : Bool := (List.range k).all fun i => okTo (objBounds S.objs.length) (rowAt S.objs i) 18
theorem objsOK_succ (S : St) (k : Nat) : objsOK S (k + 1) = (objsOK S k && okTo (objBounds S.objs.length) (rowAt S.objs k) 18) := by simp [objsOK, List.range_succ]
theorem objsOK_bad (S : St) (k n : Nat) (hk : k < n) (h : okTo (objBounds S.objs.length) (rowAt S.objs k) 18 = false) : objsOK S n = false := by
  rw [objsOK, List.all_eq_false]
  exact ⟨k, List.mem_range.2 hk, by simp [h]⟩
def plsOK (S : St) (k : Nat) : Bool := (List.range k).all fun i => okTo plBounds (numsL S.num (i * 9) 9) 9
theorem plsOK_succ (S : St) (k : Nat) : plsOK S (k + 1) = (plsOK S k && okTo plBounds (numsL S.num (k * 9) 9) 9) := by simp [plsOK, List.range_succ]
theorem plsOK_bad (S : St) (k n : Nat) (hk : k < n) (h : okTo plBounds (numsL S.num (k * 9) 9) 9 = false) : plsOK S n = false := by
  rw [plsOK, List.all_eq_false]
  exact ⟨k, List.mem_range.2 hk, by simp [h]⟩
/-- Are all numbers of a state within their bounds? -/
def rangesB (S : St) : Bool := objsOK S S.objs.length && plsOK S 2 && okTo gmBounds (numsL S.num 18 7) 7

set_option maxRecDepth 100000 in
set_option maxHeartbeats 4000000 in
theorem ranges_any (S : St) (V : SV) (w : World) (R : RepSt w V S) (hS : Small S) (G : Glob w) :
    Calls Tryz.prog 50 #[.agg (stA V S.num)] w fun e w' => e = .returned (.bool (rangesB S)) ∧ Grow w w' := by
  have hN := R.objs.len
  have GG := Lib.hid G
  have hSO := hS.objs
  clear G
  have hbl : (objBounds (S.objs.length : Int)).length = 36 := rfl
  go_enter Tryz.func50, Tryz.ntmps50
  go_wp2_with (go_at_call 70; refine (objects_any _ _ (GG.out.grow (by repeat (first | exact Grow.refl _ | refine Grow.andr ?_ | refine Grow.plus ?_ _ | refine Grow.alloc ?_ _ | refine Grow.drew ?_ | refine Grow.drewN ?_ _)))).mono ?_; rintro e w' ⟨rfl, nx, rfl⟩)
  go_loopw [21] (fun i wr => ∃ k : Nat, k ≤ S.objs.length ∧ i = .int .i64 k ∧ Hid (objsOK S k = true) ∧ Grow (((w.alloc (.cells (stA V S.num) 29)).plus nx).alloc (.cells (cellsOf (objBounds S.objs.length)) 114)) wr) (fun i _ => S.objs.length - (intOf i).toNat)
  case atStart => exact ⟨0, by omega, rfl, rfl, (by repeat (first | exact Grow.refl _ | refine Grow.andr ?_ | refine Grow.plus ?_ _ | refine Grow.alloc ?_ _ | refine Grow.drew ?_ | refine Grow.drewN ?_ _))⟩
  case round =>
    obtain ⟨k, hk, rfl, hok, x, rfl⟩ := hrel
    by_cases hlt : k < S.objs.length
    · obtain ⟨hb, hw, hsz, hsub, hcell⟩ := R.objs.at (by omega) k hlt
      have HC := Lib.hid hcell
      clear hcell
      generalize hrow : rowAt S.objs k = row at *
      have HR := Lib.hid hrow
      clear hrow
      go_wp2_with fail
      go_loopw [26] (fun i wr => ∃ f : Nat, f ≤ 18 ∧ i = .int .i64 f ∧ Hid (okTo (objBounds S.objs.length) row f = true) ∧ Grow ((((w.alloc (.cells (stA V S.num) 29)).plus nx).alloc (.cells (cellsOf (objBounds S.objs.length)) 114)).plus x |>.alloc (.cells (cellsOf row) 49)) wr) (fun i _ => 18 - (intOf i).toNat)
      case atStart => exact ⟨0, by omega, rfl, rfl, (by repeat (first | exact Grow.refl _ | refine Grow.andr ?_ | refine Grow.plus ?_ _ | refine Grow.alloc ?_ _ | refine Grow.drew ?_ | refine Grow.drewN ?_ _))⟩
      case round =>
        obtain ⟨f, hf, rfl, hof, y, rfl⟩ := hrel
        by_cases hft : f < 18
        · have hf2 : f * 2 + 2 ≤ 36 := by omega
          by_cases hin : inB (gt row f) (gt (objBounds S.objs.length) (f * 2)) (gt (objBounds S.objs.length) (f * 2 + 1)) = true
          · have hof2 : Hid (okTo (objBounds S.objs.length) row (f + 1) = true) := by rw [Hid, okTo_succ, hof.out, hin]; rfl
            go_wp2_with (go_at_call 71; refine (has_any _ _ _ _).mono ?_; rintro e w' ⟨rfl, ny, rfl⟩)
            go_roundw
            case rel => exact ⟨f + 1, by omega, by go_num, hof2, (by repeat (first | exact Grow.refl _ | refine Grow.andr ?_ | refine Grow.plus ?_ _ | refine Grow.alloc ?_ _ | refine Grow.drew ?_ | refine Grow.drewN ?_ _))⟩
            case measure => simp [intOf]; omega
          · have hin' : inB (gt row f) (gt (objBounds S.objs.length) (f * 2)) (gt (objBounds S.objs.length) (f * 2 + 1)) = false := by simpa using hin
            have hbad : Hid (rangesB S = false) := by
              rw [Hid, rangesB, objsOK_bad S k _ hlt (by rw [HR.out]; exact okTo_bad _ _ f 18 hft hin')]; rfl
            clear hin
            go_wp2_with (go_at_call 71; refine (has_any _ _ _ _).mono ?_; rintro e w' ⟨rfl, ny, rfl⟩)
            go_ret
            exact ⟨ret_bool hbad.out.symm, (by repeat (first | exact Grow.refl _ | refine Grow.andr ?_ | refine Grow.plus ?_ _ | refine Grow.alloc ?_ _ | refine Grow.drew ?_ | refine Grow.drewN ?_ _))⟩
        · have hok2 : Hid (objsOK S (k + 1) = true) := by rw [Hid, objsOK_succ, hok.out, HR.out, ← show f = 18 by omega, hof.out]; rfl
          go_wp2_with fail
          go_roundw
          case rel => exact ⟨k + 1, by omega, by go_num, hok2, (by repeat (first | exact Grow.refl _ | refine Grow.andr ?_ | refine Grow.plus ?_ _ | refine Grow.alloc ?_ _ | refine Grow.drew ?_ | refine Grow.drewN ?_ _))⟩
          case measure => simp [intOf]; omega
    · have hok2 : Hid (objsOK S S.objs.length = true) := by rw [Hid, ← show k = S.objs.length by omega]; exact hok.out
      clear hok
      go_wp2_with fail
      go_loopw [40] (fun i wr => ∃ p : Nat, p ≤ 2 ∧ i = .int .i64 p ∧ Hid (plsOK S p = true) ∧ Grow (w.alloc (.cells (stA V S.num) 29)) wr) (fun i _ => 2 - (intOf i).toNat)
      case atStart => exact ⟨0, by omega, rfl, rfl, (by repeat (first | exact Grow.refl _ | refine Grow.andr ?_ | refine Grow.plus ?_ _ | refine Grow.alloc ?_ _ | refine Grow.drew ?_ | refine Grow.drewN ?_ _))⟩
      case round =>
        obtain ⟨p, hp, rfl, hpo, z, rfl⟩ := hrel
        by_cases hpt : p < 2
        · have hsp : sub (cellsOf (numsL S.num 0 18)) (p * 9) 9 = cellsOf (numsL S.num (p * 9) 9) := by rw [sub_nums _ _ _ _ _ (by omega), Nat.zero_add]
          go_wp2_with (go_at_call 72; refine (players_any _ (GG.out.grow (by repeat (first | exact Grow.refl _ | refine Grow.andr ?_ | refine Grow.plus ?_ _ | refine Grow.alloc ?_ _ | refine Grow.drew ?_ | refine Grow.drewN ?_ _)))).mono ?_; rintro e w' ⟨rfl, n2, rfl⟩)
          have hbp : plBounds.length = 18 := rfl
          go_loopw [44] (fun i wr => ∃ f : Nat, f ≤ 9 ∧ i = .int .i64 f ∧ Hid (okTo plBounds (numsL S.num (p * 9) 9) f = true) ∧ Grow (((w.alloc (.cells (stA V S.num) 29)).plus z).alloc (.cells (cellsOf (numsL S.num (p * 9) 9)) 25)) wr) (fun i _ => 9 - (intOf i).toNat)
          case atStart => exact ⟨0, by omega, rfl, rfl, (by repeat (first | exact Grow.refl _ | refine Grow.andr ?_ | refine Grow.plus ?_ _ | refine Grow.alloc ?_ _ | refine Grow.drew ?_ | refine Grow.drewN ?_ _))⟩
          case round =>
            obtain ⟨f, hf, rfl, hof, y, rfl⟩ := hrel
            by_cases hft : f < 9
            · have hf2 : f * 2 + 2 ≤ 18 := by omega
              by_cases hin : inB (gt (numsL S.num (p * 9) 9) f) (gt plBounds (f * 2)) (gt plBounds (f * 2 + 1)) = true
              · have hof2 : Hid (okTo plBounds (numsL S.num (p * 9) 9) (f + 1) = true) := by rw [Hid, okTo_succ, hof.out, hin]; rfl
                go_wp2_with fail
                refine wp_region_grow (by kernel_rfl) (by kernel_rfl) ?_; (repeat (go_big_quiet_step ( (go_at_call 71; refine Calls.grow (has_any _ _ _ _)) ))); refine wpQuiet_nil ?_; rintro _ ⟨nx, rfl⟩
                go_wp2_with fail
                go_roundw
                case rel => exact ⟨f + 1, by omega, by go_num, hof2, (by repeat (first | exact Grow.refl _ | refine Grow.andr ?_ | refine Grow.plus ?_ _ | refine Grow.alloc ?_ _ | refine Grow.drew ?_ | refine Grow.drewN ?_ _))⟩
                case measure => simp [intOf]; omega
              · have hin' : inB (gt (numsL S.num (p * 9) 9) f) (gt plBounds (f * 2)) (gt plBounds (f * 2 + 1)) = false := by simpa using hin
                have hbad : Hid (rangesB S = false) := by
                  rw [Hid, rangesB, plsOK_bad S p _ hpt (okTo_bad _ _ f 9 hft hin')]; simp
                clear hin
                go_wp2_with fail
                refine wp_region_grow (by kernel_rfl) (by kernel_rfl) ?_; (repeat (go_big_quiet_step ( (go_at_call 71; refine Calls.grow (has_any _ _ _ _)) ))); refine wpQuiet_nil ?_; rintro _ ⟨nx, rfl⟩
                go_wp2_with fail
                go_ret
                exact ⟨ret_bool hbad.out.symm, (by repeat (first | exact Grow.refl _ | refine Grow.andr ?_ | refine Grow.plus ?_ _ | refine Grow.alloc ?_ _ | refine Grow.drew ?_ | refine Grow.drewN ?_ _))⟩
            · have hpo2 : Hid (plsOK S (p + 1) = true) := by
                have h1 := hof.out
                rw [show f = 9 by omega] at h1
                rw [Hid, plsOK_succ, hpo.out, h1]; rfl
              go_wp2_with fail
              go_roundw
              case rel => exact ⟨p + 1, by omega, by go_num, hpo2, (by repeat (first | exact Grow.refl _ | refine Grow.andr ?_ | refine Grow.plus ?_ _ | refine Grow.alloc ?_ _ | refine Grow.drew ?_ | refine Grow.drewN ?_ _))⟩
              case measure => simp [intOf]; omega
        · have hpo2 : Hid (plsOK S 2 = true) := by rw [Hid, ← show p = 2 by omega]; exact hpo.out
          have hbp : gmBounds.length = 14 := rfl
          clear hpo
          go_wp2_with (go_at_call 73; refine (game_any _ (GG.out.grow (by repeat (first | exact Grow.refl _ | refine Grow.andr ?_ | refine Grow.plus ?_ _ | refine Grow.alloc ?_ _ | refine Grow.drew ?_ | refine Grow.drewN ?_ _)))).mono ?_; rintro e w' ⟨rfl, n2, rfl⟩)
          go_loopw [57] (fun i wr => ∃ f : Nat, f ≤ 7 ∧ i = .int .i64 f ∧ Hid (okTo gmBounds (numsL S.num 18 7) f = true) ∧ Grow (w.alloc (.cells (stA V S.num) 29)) wr) (fun i _ => 7 - (intOf i).toNat)
          case atStart => exact ⟨0, by omega, rfl, rfl, (by repeat (first | exact Grow.refl _ | refine Grow.andr ?_ | refine Grow.plus ?_ _ | refine Grow.alloc ?_ _ | refine Grow.drew ?_ | refine Grow.drewN ?_ _))⟩
          case round =>
            obtain ⟨f, hf, rfl, hof, y, rfl⟩ := hrel
            by_cases hft : f < 7
            · have hf2 : f * 2 + 2 ≤ 14 := by omega
              have hgn : gt (numsL S.num 18 7) f = S.num (18 + f) := numsL_at _ _ _ _ hft
              have hcg : (stA V S.num)[30 + f]? = some (I (S.num (18 + f))) := by rw [show 30 + f = 12 + (18 + f) by omega]; exact stA_num _ _ _ (by omega)
              by_cases hin : inB (S.num (18 + f)) (gt gmBounds (f * 2)) (gt gmBounds (f * 2 + 1)) = true
              · have hof2 : Hid (okTo gmBounds (numsL S.num 18 7) (f + 1) = true) := by rw [Hid, okTo_succ, hof.out, hgn, hin]; rfl
                go_wp2_with fail
                refine wp_region_grow (by kernel_rfl) (by kernel_rfl) ?_; (repeat (go_big_quiet_step ( (go_at_call 71; refine Calls.grow (has_any _ _ _ _)) ))); refine wpQuiet_nil ?_; rintro _ ⟨nx, rfl⟩
                go_wp2_with fail
                go_roundw
                case rel => exact ⟨f + 1, by omega, by go_num, hof2, (by repeat (first | exact Grow.refl _ | refine Grow.andr ?_ | refine Grow.plus ?_ _ | refine Grow.alloc ?_ _ | refine Grow.drew ?_ | refine Grow.drewN ?_ _))⟩
                case measure => simp [intOf]; omega
              · have hin' : inB (S.num (18 + f)) (gt gmBounds (f * 2)) (gt gmBounds (f * 2 + 1)) = false := by simpa using hin
                have hbad : Hid (rangesB S = false) := by
                  rw [Hid, rangesB, okTo_bad gmBounds (numsL S.num 18 7) f 7 hft (by rw [hgn]; exact hin')]; simp
                clear hin
                go_wp2_with fail
                refine wp_region_grow (by kernel_rfl) (by kernel_rfl) ?_; (repeat (go_big_quiet_step ( (go_at_call 71; refine Calls.grow (has_any _ _ _ _)) ))); refine wpQuiet_nil ?_; rintro _ ⟨nx, rfl⟩
                go_wp2_with fail
                go_ret
                exact ⟨ret_bool hbad.out.symm, (by repeat (first | exact Grow.refl _ | refine Grow.andr ?_ | refine Grow.plus ?_ _ | refine Grow.alloc ?_ _ | refine Grow.drew ?_ | refine Grow.drewN ?_ _))⟩
            · have hyes : Hid (rangesB S = true) := by
                have h1 := hof.out
                rw [show f = 7 by omega] at h1
                rw [Hid, rangesB, hok2.out, hpo2.out, h1]; rfl
              go_wp2_with fail
              go_ret
              exact ⟨ret_bool hyes.out.symm, (by repeat (first | exact Grow.refl _ | refine Grow.andr ?_ | refine Grow.plus ?_ _ | refine Grow.alloc ?_ _ | refine Grow.drew ?_ | refine Grow.drewN ?_ _))⟩
end Go.Proofs.YtibmnofpoenonaaGreatDoor
