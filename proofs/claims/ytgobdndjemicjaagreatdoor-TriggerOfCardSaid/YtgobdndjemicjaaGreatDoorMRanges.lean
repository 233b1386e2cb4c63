/-
  The walk of state's ranges.
  The walks of Side, stands, zones.
  The walk of zones.
  The walk of state's formed.
  The walk of Long: a state that is larger than is looked at.
  The walk of state.Check.
  What the reference asks of the lists: plain functions.
  When the lists are right: each object stands in one list, once, and in its own. The program's test and the reference's are this.
  Events, as plain functions: whether one may be, its opposite, and the state behind it.
  The walks of event's plain functions.
-/
import Derived.Test.YtgobdndjemicjaaGreatDoorMSt
import Derived.Test.YtgobdndjemicjaaGreatDoorMEq
import Derived.Test.YtgobdndjemicjaaGreatDoorLay
import Derived.Shelf.SlicesE.IndexFunc
import Derived.Shelf.SlicesQ.IndexFunc
import Derived.Ground.SlgfProg
import Derived.Lib.SliceRun
import Derived.Deep.Light
namespace Go.Proofs.YtgobdndjemicjaaGreatDoor
open Go Go.RowKit

@[go_sem] theorem sub_two (c : List Int) (o : Nat) (h : o + 2 ≤ c.length) : sub (cellsOf c) o 2 = cellsOf [gt c o, gt c (o + 1)] := by
  unfold sub
  apply Array.ext_getElem?
  intro i
  rw [Array.getElem?_extract]
  match i with
  | 0 => rw [if_pos (by rw [cellsOf_size]; omega), Nat.add_zero, cellsOf_get _ _ (by omega)]; rfl
  | 1 => rw [if_pos (by rw [cellsOf_size]; omega), cellsOf_get _ _ (by omega)]; rfl
  | n + 2 => rw [if_neg (by omega), Array.getElem?_eq_none (by simp [cellsOf])]
@[go_sem] theorem gt_two0 (a b : Int) : gt [a, b] 0 = a := rfl
@[go_sem] theorem gt_two1 (a b : Int) : gt [a, b] 1 = b := rfl
theorem sub_nums (num : Nat → Int) (o n a b : Nat) (h : a + b ≤ n) : sub (cellsOf (numsL num o n)) a b = cellsOf (numsL num (o + a) b) := by
  unfold sub
  apply Array.ext_getElem?
  intro i
  rw [Array.getElem?_extract]
  by_cases hi : i < b
  · rw [if_pos (by rw [cellsOf_size, numsL_len]; omega), cellsOf_get _ _ (by rw [numsL_len]; omega), cellsOf_get _ _ (by rw [numsL_len]; omega), numsL_at _ _ _ _ (by omega), numsL_at _ _ _ _ hi, Nat.add_assoc]
  · rw [if_neg (by omega), Array.getElem?_eq_none (by rw [cellsOf_size, numsL_len]; omega)]
theorem run_index_part {P : Program} (w : World) (T e n k : Nat) (hT : P.underlying T = some (.array n e)) (ha : ∀ w, (isAgg e).run P w = .ok true w) (hs : ∀ w, (sizeOf e).run P w = .ok k w) (cs : Array Value) (q : IntKind) (i : Int) (h0 : 0 ≤ i) (h1 : i < n) :
    (Instr.index T (.agg cs) (.int q i)).run P w = .ok (.agg (sub cs (i.toNat * k) k)) w := by
  simp only [Instr.index, asIntOf, Sem.run_bind, Sem.run_pure, Result.andThen_ok, run_underlying hT, h0, h1, and_self, if_true, hs, part, ha, sub]
@[go_sem] theorem index_Object (w : World) (c : List Int) (hc : c.length = 18) (k : IntKind) (i : Int) (h0 : 0 ≤ i) (h1 : i < 18) : (Instr.index 77 (.agg (cellsOf c)) (.int k i)).run Tryz.prog w = .ok (I (gt c i.toNat)) w :=
  run_index_ints w 77 3 18 Tryz.underlying77 Tryz.underlying3 (by kernel_rfl) c hc k i h0 h1
@[go_sem] theorem index_players (w : World) (cs : Array Value) (q : IntKind) (i : Int) (h0 : 0 ≤ i) (h1 : i < 2) : (Instr.index 26 (.agg cs) (.int q i)).run Tryz.prog w = .ok (.agg (sub cs (i.toNat * 9) 9)) w :=
  run_index_part w 26 25 2 9 Tryz.underlying26 (fun w => by kernel_rfl) (fun w => by kernel_rfl) cs q i h0 h1
@[go_sem] theorem index_b9 (w : World) (cs : Array Value) (q : IntKind) (i : Int) (h0 : 0 ≤ i) (h1 : i < 9) : (Instr.index 176 (.agg cs) (.int q i)).run Tryz.prog w = .ok (.agg (sub cs (i.toNat * 2) 2)) w :=
  run_index_part w 176 173 9 2 Tryz.underlying176 (fun w => by kernel_rfl) (fun w => by kernel_rfl) cs q i h0 h1
@[go_sem] theorem index_b7 (w : World) (cs : Array Value) (q : IntKind) (i : Int) (h0 : 0 ≤ i) (h1 : i < 7) : (Instr.index 178 (.agg cs) (.int q i)).run Tryz.prog w = .ok (.agg (sub cs (i.toNat * 2) 2)) w :=
  run_index_part w 178 173 7 2 Tryz.underlying178 (fun w => by kernel_rfl) (fun w => by kernel_rfl) cs q i h0 h1
@[go_sem ↓] theorem load_players (ρ : Operand → Value) (dst : Option Tmp) (x : Operand) (ty : TypeId) (pos : String) (after : Array Edge) (guard : Option (Nat × Bool)) :
    execOp ρ { dst, op := .load 26 x, type := ty, pos, after, guard } = ldRow 26 (ρ x) := rfl
@[go_sem ↓] theorem store_players (ρ : Operand → Value) (dst : Option Tmp) (x y : Operand) (ty : TypeId) (pos : String) (after : Array Edge) (guard : Option (Nat × Bool)) :
    execOp ρ { dst, op := .store 26 x y, type := ty, pos, after, guard } = stRow 26 (ρ x) (ρ y) := rfl
@[go_sem] theorem run_load_players (w : World) (b o : Nat) (h : o + 18 ≤ (w.blk b).size) : (ldRow 26 (.pointer (some ⟨b, o, none⟩))).run Tryz.prog w = .ok (.value (.agg (sub (w.blk b) o 18))) w :=
  run_ldSub w b o 26 18 (by kernel_rfl) (by kernel_rfl) h (by omega)
@[go_sem] theorem run_store_players (w : World) (b : Nat) (cs : Array Value) (h : (w.blk b).size = 18) (hc : cs.size = 18) (h1 : oneCells cs = true) (hf : w.free b = true) : (stRow 26 (.pointer (some ⟨b, 0, none⟩)) (.agg cs)).run Tryz.prog w = .ok .skip (w.setRow b cs) :=
  run_stRow w b 26 18 _ (by kernel_rfl) h hc (by omega) hf h1
@[go_sem ↓] theorem load_nine (ρ : Operand → Value) (dst : Option Tmp) (x : Operand) (ty : TypeId) (pos : String) (after : Array Edge) (guard : Option (Nat × Bool)) :
    execOp ρ { dst, op := .load 25 x, type := ty, pos, after, guard } = ldRow 25 (ρ x) := rfl
@[go_sem ↓] theorem store_nine (ρ : Operand → Value) (dst : Option Tmp) (x y : Operand) (ty : TypeId) (pos : String) (after : Array Edge) (guard : Option (Nat × Bool)) :
    execOp ρ { dst, op := .store 25 x y, type := ty, pos, after, guard } = stRow 25 (ρ x) (ρ y) := rfl
@[go_sem] theorem run_load_nine (w : World) (b o : Nat) (h : o + 9 ≤ (w.blk b).size) : (ldRow 25 (.pointer (some ⟨b, o, none⟩))).run Tryz.prog w = .ok (.value (.agg (sub (w.blk b) o 9))) w :=
  run_ldSub w b o 25 9 (by kernel_rfl) (by kernel_rfl) h (by omega)
@[go_sem] theorem run_store_nine (w : World) (b : Nat) (cs : Array Value) (h : (w.blk b).size = 9) (hc : cs.size = 9) (h1 : oneCells cs = true) (hf : w.free b = true) : (stRow 25 (.pointer (some ⟨b, 0, none⟩)) (.agg cs)).run Tryz.prog w = .ok .skip (w.setRow b cs) :=
  run_stRow w b 25 9 _ (by kernel_rfl) h hc (by omega) hf h1
@[go_sem ↓] theorem load_seven (ρ : Operand → Value) (dst : Option Tmp) (x : Operand) (ty : TypeId) (pos : String) (after : Array Edge) (guard : Option (Nat × Bool)) :
    execOp ρ { dst, op := .load 27 x, type := ty, pos, after, guard } = ldRow 27 (ρ x) := rfl
@[go_sem ↓] theorem store_seven (ρ : Operand → Value) (dst : Option Tmp) (x y : Operand) (ty : TypeId) (pos : String) (after : Array Edge) (guard : Option (Nat × Bool)) :
    execOp ρ { dst, op := .store 27 x y, type := ty, pos, after, guard } = stRow 27 (ρ x) (ρ y) := rfl
@[go_sem] theorem run_load_seven (w : World) (b o : Nat) (h : o + 7 ≤ (w.blk b).size) : (ldRow 27 (.pointer (some ⟨b, o, none⟩))).run Tryz.prog w = .ok (.value (.agg (sub (w.blk b) o 7))) w :=
  run_ldSub w b o 27 7 (by kernel_rfl) (by kernel_rfl) h (by omega)
@[go_sem] theorem run_store_seven (w : World) (b : Nat) (cs : Array Value) (h : (w.blk b).size = 7) (hc : cs.size = 7) (h1 : oneCells cs = true) (hf : w.free b = true) : (stRow 27 (.pointer (some ⟨b, 0, none⟩)) (.agg cs)).run Tryz.prog w = .ok .skip (w.setRow b cs) :=
  run_stRow w b 27 7 _ (by kernel_rfl) h hc (by omega) hf h1

/-- Are the first k numbers within their bounds? -/
def okTo (bs o : List Int) (k : Nat) : Bool := (List.range k).all fun f => inB (gt o f) (gt bs (f * 2)) (gt bs (f * 2 + 1))
theorem okTo_succ (bs o : List Int) (k : Nat) : okTo bs o (k + 1) = (okTo bs o k && inB (gt o k) (gt bs (k * 2)) (gt bs (k * 2 + 1))) := by
  simp [okTo, List.range_succ]
theorem okTo_bad (bs o : List Int) (k n : Nat) (hk : k < n) (h : inB (gt o k) (gt bs (k * 2)) (gt bs (k * 2 + 1)) = false) : okTo bs o n = false := by
  rw [okTo, List.all_eq_false]
  exact ⟨k, List.mem_range.2 hk, by simp [h]⟩
def objsOK (S : St) (k : Nat) : Bool := (List.range k).all fun i => okTo (objBounds S.objs.length) (rowAt S.objs i) 18
theorem objsOK_succ (S : St) (k : Nat) : objsOK S (k + 1) = (objsOK S k && okTo (objBounds S.objs.length) (rowAt S.objs k) 18) := by simp [objsOK, List.range_succ]
theorem objsOK_bad (S : St) (k n : Nat) (hk : k < n) (h : okTo (objBounds S.objs.length) (rowAt S.objs k) 18 = false) : objsOK S n = false := by
  rw [objsOK, List.all_eq_false]
  exact ⟨k, List.mem_range.2 hk, by simp [h]⟩
def plsOK (S : St) (k : Nat) : Bool := (List.range k).all fun i => okTo plBounds (numsL S.num (i * 9) 9) 9
theorem plsOK_succ (S : St) (k : Nat) : plsOK S (k + 1) = (plsOK S k && okTo plBounds (numsL S.num (k * 9) 9) 9) := by simp [plsOK, List.range_succ]
theorem plsOK_bad (S : St) (k n : Nat) (hk : k < n) (h : okTo plBounds (numsL S.num (k * 9) 9) 9 = false) : plsOK S n = false := by
  rw [plsOK, List.all_eq_false]
  exact ⟨k, List.mem_range.2 hk, by simp [h]⟩
/-- Are all numbers of a state within their bounds? -/
def rangesB (S : St) : Bool := objsOK S S.objs.length && plsOK S 2 && okTo gmBounds (numsL S.num 18 7) 7

set_option maxRecDepth 100000 in
set_option maxHeartbeats 4000000 in
theorem ranges_any (S : St) (V : SV) (w : World) (R : RepSt w V S) (hS : Small S) (G : Glob w) :
    Calls Tryz.prog 104 #[.agg (stA V S.num)] w fun e w' => e = .returned (.bool (rangesB S)) ∧ Grow w w' := by
  have hN := R.objs.len
  have GG := Lib.hid G
  have hSO := hS.objs
  clear G
  have hbl : (objBounds (S.objs.length : Int)).length = 36 := rfl
  go_enter Tryz.func104, Tryz.ntmps104
  go_wp2_with (go_at_call 157; refine (objects_any _ _ (GG.out.grow grI)).mono ?_; rintro e w' ⟨rfl, nx, rfl⟩)
  go_loopw [21] (fun i wr => ∃ k : Nat, k ≤ S.objs.length ∧ i = .int .i64 k ∧ Hid (objsOK S k = true) ∧ Grow (((w.alloc (.cells (stA V S.num) 29)).plus nx).alloc (.cells (cellsOf (objBounds S.objs.length)) 174)) wr) (fun i _ => S.objs.length - (intOf i).toNat)
  case atStart => exact ⟨0, by omega, rfl, rfl, grI⟩
  case round =>
    obtain ⟨k, hk, rfl, hok, x, rfl⟩ := hrel
    by_cases hlt : k < S.objs.length
    · obtain ⟨hb, hw, hsz, hsub, hcell⟩ := R.objs.at (by omega) k hlt
      have HC := Lib.hid hcell
      clear hcell
      generalize hrow : rowAt S.objs k = row at *
      have HR := Lib.hid hrow
      clear hrow
      go_wp2_with fail
      go_loopw [26] (fun i wr => ∃ f : Nat, f ≤ 18 ∧ i = .int .i64 f ∧ Hid (okTo (objBounds S.objs.length) row f = true) ∧ Grow ((((w.alloc (.cells (stA V S.num) 29)).plus nx).alloc (.cells (cellsOf (objBounds S.objs.length)) 174)).plus x |>.alloc (.cells (cellsOf row) 77)) wr) (fun i _ => 18 - (intOf i).toNat)
      case atStart => exact ⟨0, by omega, rfl, rfl, grI⟩
      case round =>
        obtain ⟨f, hf, rfl, hof, y, rfl⟩ := hrel
        by_cases hft : f < 18
        · have hf2 : f * 2 + 2 ≤ 36 := by omega
          by_cases hin : inB (gt row f) (gt (objBounds S.objs.length) (f * 2)) (gt (objBounds S.objs.length) (f * 2 + 1)) = true
          · have hof2 : Hid (okTo (objBounds S.objs.length) row (f + 1) = true) := by rw [Hid, okTo_succ, hof.out, hin]; rfl
            go_wp2_with (go_at_call 158; refine (has_any _ _ _ _).mono ?_; rintro e w' ⟨rfl, ny, rfl⟩)
            go_roundw
            case rel => exact ⟨f + 1, by omega, by go_num, hof2, grI⟩
            case measure => simp [intOf]; omega
          · have hin' : inB (gt row f) (gt (objBounds S.objs.length) (f * 2)) (gt (objBounds S.objs.length) (f * 2 + 1)) = false := by simpa using hin
            have hbad : Hid (rangesB S = false) := by
              rw [Hid, rangesB, objsOK_bad S k _ hlt (by rw [HR.out]; exact okTo_bad _ _ f 18 hft hin')]; rfl
            clear hin
            go_wp2_with (go_at_call 158; refine (has_any _ _ _ _).mono ?_; rintro e w' ⟨rfl, ny, rfl⟩)
            go_ret
            exact ⟨ret_bool hbad.out.symm, grI⟩
        · have hok2 : Hid (objsOK S (k + 1) = true) := by rw [Hid, objsOK_succ, hok.out, HR.out, ← show f = 18 by omega, hof.out]; rfl
          go_wp2_with fail
          go_roundw
          case rel => exact ⟨k + 1, by omega, by go_num, hok2, grI⟩
          case measure => simp [intOf]; omega
    · have hok2 : Hid (objsOK S S.objs.length = true) := by rw [Hid, ← show k = S.objs.length by omega]; exact hok.out
      clear hok
      go_wp2_with fail
      go_loopw [40] (fun i wr => ∃ p : Nat, p ≤ 2 ∧ i = .int .i64 p ∧ Hid (plsOK S p = true) ∧ Grow (w.alloc (.cells (stA V S.num) 29)) wr) (fun i _ => 2 - (intOf i).toNat)
      case atStart => exact ⟨0, by omega, rfl, rfl, grI⟩
      case round =>
        obtain ⟨p, hp, rfl, hpo, z, rfl⟩ := hrel
        by_cases hpt : p < 2
        · have hsp : sub (cellsOf (numsL S.num 0 18)) (p * 9) 9 = cellsOf (numsL S.num (p * 9) 9) := by rw [sub_nums _ _ _ _ _ (by omega), Nat.zero_add]
          go_wp2_with (go_at_call 159; refine (players_any _ (GG.out.grow grI)).mono ?_; rintro e w' ⟨rfl, n2, rfl⟩)
          have hbp : plBounds.length = 18 := rfl
          go_loopw [44] (fun i wr => ∃ f : Nat, f ≤ 9 ∧ i = .int .i64 f ∧ Hid (okTo plBounds (numsL S.num (p * 9) 9) f = true) ∧ Grow (((w.alloc (.cells (stA V S.num) 29)).plus z).alloc (.cells (cellsOf (numsL S.num (p * 9) 9)) 25)) wr) (fun i _ => 9 - (intOf i).toNat)
          case atStart => exact ⟨0, by omega, rfl, rfl, grI⟩
          case round =>
            obtain ⟨f, hf, rfl, hof, y, rfl⟩ := hrel
            by_cases hft : f < 9
            · have hf2 : f * 2 + 2 ≤ 18 := by omega
              by_cases hin : inB (gt (numsL S.num (p * 9) 9) f) (gt plBounds (f * 2)) (gt plBounds (f * 2 + 1)) = true
              · have hof2 : Hid (okTo plBounds (numsL S.num (p * 9) 9) (f + 1) = true) := by rw [Hid, okTo_succ, hof.out, hin]; rfl
                go_wp2_with fail
                refine wp_region_grow (by kernel_rfl) (by kernel_rfl) ?_; (repeat (go_big_quiet_step ( (go_at_call 158; refine Calls.grow (has_any _ _ _ _)) ))); refine wpQuiet_nil ?_; rintro _ ⟨nx, rfl⟩
                go_wp2_with fail
                go_roundw
                case rel => exact ⟨f + 1, by omega, by go_num, hof2, grI⟩
                case measure => simp [intOf]; omega
              · have hin' : inB (gt (numsL S.num (p * 9) 9) f) (gt plBounds (f * 2)) (gt plBounds (f * 2 + 1)) = false := by simpa using hin
                have hbad : Hid (rangesB S = false) := by
                  rw [Hid, rangesB, plsOK_bad S p _ hpt (okTo_bad _ _ f 9 hft hin')]; simp
                clear hin
                go_wp2_with fail
                refine wp_region_grow (by kernel_rfl) (by kernel_rfl) ?_; (repeat (go_big_quiet_step ( (go_at_call 158; refine Calls.grow (has_any _ _ _ _)) ))); refine wpQuiet_nil ?_; rintro _ ⟨nx, rfl⟩
                go_wp2_with fail
                go_ret
                exact ⟨ret_bool hbad.out.symm, grI⟩
            · have hpo2 : Hid (plsOK S (p + 1) = true) := by
                have h1 := hof.out
                rw [show f = 9 by omega] at h1
                rw [Hid, plsOK_succ, hpo.out, h1]; rfl
              go_wp2_with fail
              go_roundw
              case rel => exact ⟨p + 1, by omega, by go_num, hpo2, grI⟩
              case measure => simp [intOf]; omega
        · have hpo2 : Hid (plsOK S 2 = true) := by rw [Hid, ← show p = 2 by omega]; exact hpo.out
          have hbp : gmBounds.length = 14 := rfl
          clear hpo
          go_wp2_with (go_at_call 160; refine (game_any _ (GG.out.grow grI)).mono ?_; rintro e w' ⟨rfl, n2, rfl⟩)
          go_loopw [57] (fun i wr => ∃ f : Nat, f ≤ 7 ∧ i = .int .i64 f ∧ Hid (okTo gmBounds (numsL S.num 18 7) f = true) ∧ Grow (w.alloc (.cells (stA V S.num) 29)) wr) (fun i _ => 7 - (intOf i).toNat)
          case atStart => exact ⟨0, by omega, rfl, rfl, grI⟩
          case round =>
            obtain ⟨f, hf, rfl, hof, y, rfl⟩ := hrel
            by_cases hft : f < 7
            · have hf2 : f * 2 + 2 ≤ 14 := by omega
              have hgn : gt (numsL S.num 18 7) f = S.num (18 + f) := numsL_at _ _ _ _ hft
              have hcg : (stA V S.num)[30 + f]? = some (I (S.num (18 + f))) := by rw [show 30 + f = 12 + (18 + f) by omega]; exact stA_num _ _ _ (by omega)
              by_cases hin : inB (S.num (18 + f)) (gt gmBounds (f * 2)) (gt gmBounds (f * 2 + 1)) = true
              · have hof2 : Hid (okTo gmBounds (numsL S.num 18 7) (f + 1) = true) := by rw [Hid, okTo_succ, hof.out, hgn, hin]; rfl
                go_wp2_with fail
                refine wp_region_grow (by kernel_rfl) (by kernel_rfl) ?_; (repeat (go_big_quiet_step ( (go_at_call 158; refine Calls.grow (has_any _ _ _ _)) ))); refine wpQuiet_nil ?_; rintro _ ⟨nx, rfl⟩
                go_wp2_with fail
                go_roundw
                case rel => exact ⟨f + 1, by omega, by go_num, hof2, grI⟩
                case measure => simp [intOf]; omega
              · have hin' : inB (S.num (18 + f)) (gt gmBounds (f * 2)) (gt gmBounds (f * 2 + 1)) = false := by simpa using hin
                have hbad : Hid (rangesB S = false) := by
                  rw [Hid, rangesB, okTo_bad gmBounds (numsL S.num 18 7) f 7 hft (by rw [hgn]; exact hin')]; simp
                clear hin
                go_wp2_with fail
                refine wp_region_grow (by kernel_rfl) (by kernel_rfl) ?_; (repeat (go_big_quiet_step ( (go_at_call 158; refine Calls.grow (has_any _ _ _ _)) ))); refine wpQuiet_nil ?_; rintro _ ⟨nx, rfl⟩
                go_wp2_with fail
                go_ret
                exact ⟨ret_bool hbad.out.symm, grI⟩
            · have hyes : Hid (rangesB S = true) := by
                have h1 := hof.out
                rw [show f = 7 by omega] at h1
                rw [Hid, rangesB, hok2.out, hpo2.out, h1]; rfl
              go_wp2_with fail
              go_ret
              exact ⟨ret_bool hyes.out.symm, grI⟩
end Go.Proofs.YtgobdndjemicjaaGreatDoor
namespace Go.Proofs.YtgobdndjemicjaaGreatDoor
open Go Go.RowKit

def ownedB (z : Int) : Bool := decide (0 ≤ z) && decide (z < 8)
def sideBase (z : Int) : Int := if ownedB z then z - z % 2 else if z < 0 ∨ 11 ≤ z then 0 else z
def sidePl (z : Int) : Int := if ownedB z then z % 2 else 0

theorem side_any (z : Int) (w : World) :
    Calls Tryz.prog 150 #[.int .i64 z] w fun e w' => e = .returned (.tuple #[.int .i64 (sideBase z), .int .i64 (sidePl z), .bool (ownedB z)]) ∧ w' = w := by
  by_cases h0 : z < 0
  · have e1 : Hid (sideBase z = 0 ∧ sidePl z = 0 ∧ ownedB z = false) := by
      have : ownedB z = false := by simp [ownedB]; omega
      refine ⟨by rw [sideBase, this, if_neg (by simp), if_pos (by omega)], by rw [sidePl, this]; rfl, this⟩
    go_enter Tryz.func150, Tryz.ntmps150
    go_wp2_with fail
    go_ret3
    exact ⟨by rw [e1.out.1, e1.out.2.1, e1.out.2.2]; rfl, rfl⟩
  · by_cases h8 : z < 8
    · have : z = 0 ∨ z = 1 ∨ z = 2 ∨ z = 3 ∨ z = 4 ∨ z = 5 ∨ z = 6 ∨ z = 7 := by omega
      rcases this with rfl | rfl | rfl | rfl | rfl | rfl | rfl | rfl
      all_goals
        go_enter Tryz.func150, Tryz.ntmps150
        go_wp2_with fail
        go_ret3
        exact ⟨rfl, rfl⟩
    · have ho : ownedB z = false := by simp [ownedB]; omega
      have e2 : Hid (sidePl z = 0 ∧ ownedB z = false) := ⟨by rw [sidePl, ho]; rfl, ho⟩
      by_cases h11 : 11 ≤ z
      · have e1 : Hid (sideBase z = 0) := by rw [Hid, sideBase, ho, if_neg (by simp), if_pos (by omega)]
        clear ho
        go_enter Tryz.func150, Tryz.ntmps150
        go_wp2_with fail
        go_ret3
        exact ⟨by rw [e1.out, e2.out.1, e2.out.2]; rfl, rfl⟩
      · have e1 : Hid (sideBase z = z) := by rw [Hid, sideBase, ho, if_neg (by simp), if_neg (by omega)]
        clear ho
        go_enter Tryz.func150, Tryz.ntmps150
        go_wp2_with fail
        go_ret3
        exact ⟨by rw [e1.out, e2.out.1, e2.out.2]; rfl, rfl⟩

def standsB (o : List Int) (z : Int) : Bool := if ownedB z then (gt o 1 == sidePl z) && (gt o 13 == 0) else if z = 8 then gt o 13 != 2 else true

set_option maxRecDepth 100000 in
theorem stands_any (o : List Int) (z : Int) (ho : o.length = 18) (w : World) :
    Calls Tryz.prog 161 #[.agg (cellsOf o), .int .i64 z] w fun e w' => e = .returned (.bool (standsB o z)) ∧ Grow w w' := by
  by_cases hz : ownedB z = true
  · have hb : Hid (standsB o z = ((gt o 1 == sidePl z) && (gt o 13 == 0))) := by rw [Hid, standsB, if_pos hz]
    by_cases h1 : gt o 1 = sidePl z
    · go_enter Tryz.func161, Tryz.ntmps161
      go_wp2_with (go_at_call 150; refine (side_any _ _).mono ?_; rintro e w' ⟨rfl, rfl⟩)
      go_ret
      exact ⟨ret_bool (by rw [hb.out]; simp [h1]), grI⟩
    · go_enter Tryz.func161, Tryz.ntmps161
      go_wp2_with (go_at_call 150; refine (side_any _ _).mono ?_; rintro e w' ⟨rfl, rfl⟩)
      go_ret
      exact ⟨ret_bool (by rw [hb.out]; simp [h1]), grI⟩
  · have hz' : ownedB z = false := by simpa using hz
    have hb : Hid (standsB o z = if z = 8 then gt o 13 != 2 else true) := by rw [Hid, standsB, if_neg (by simp [hz'])]
    clear hz
    by_cases h8 : z = 8
    · go_enter Tryz.func161, Tryz.ntmps161
      go_wp2_with (go_at_call 150; refine (side_any _ _).mono ?_; rintro e w' ⟨rfl, rfl⟩)
      go_ret
      exact ⟨ret_bool (by have h := hb.out; rw [if_pos h8] at h; rw [h]), grI⟩
    · go_enter Tryz.func161, Tryz.ntmps161
      go_wp2_with (go_at_call 150; refine (side_any _ _).mono ?_; rintro e w' ⟨rfl, rfl⟩)
      go_ret
      exact ⟨ret_bool (by have h := hb.out; rw [if_neg h8] at h; rw [h]), grI⟩
end Go.Proofs.YtgobdndjemicjaaGreatDoor
namespace Go.Proofs.YtgobdndjemicjaaGreatDoor
open Go Go.RowKit

/-- The cells of a row of truths. -/
def cellsB (l : List Bool) : Array Value := (l.map Value.bool).toArray
def gtb (l : List Bool) (i : Nat) : Bool := l.getD i false
@[go_sem] theorem cellsB_size (l : List Bool) : (cellsB l).size = l.length := by simp [cellsB]
@[go_sem] theorem cellsB_get (l : List Bool) (i : Nat) (h : i < l.length) : (cellsB l)[i]? = some (.bool (gtb l i)) := by simp [cellsB, gtb, h]
@[go_sem] theorem cellsB_getElem (l : List Bool) (i : Nat) (h : i < (cellsB l).size) : (cellsB l)[i]'h = .bool (gtb l i) := by
  have h' : i < l.length := by simpa [cellsB] using h
  simp [cellsB, gtb, h']
@[go_sem] theorem cellsB_set (l : List Bool) (i : Nat) (x : Bool) : (cellsB l).setIfInBounds i (.bool x) = cellsB (l.set i x) := by simp [cellsB, List.map_set]
@[go_sem] theorem make_bools (w : World) (l c : Int) (h0 : 0 ≤ l) (hlc : l = c) (h1 : c ≤ 1099511627776) : (Instr.makeSlice 180 (.int .i64 l) (.int .i64 c)).run Tryz.prog w = .ok (.slice (some ⟨w.heap.size, 0, none⟩) c.toNat c.toNat) (w.alloc (.cells (cellsB (List.replicate c.toNat false)) 4)) := by
  subst hlc
  have hb : (Tryz.t4.bytes : Int) * l ≤ 281474976710656 := by
    rw [show (Tryz.t4.bytes : Int) = 1 by kernel_rfl]; omega
  have h := run_make (P := Tryz.prog) w 180 4 Tryz.t4 (.bool false) Tryz.underlying180 (by kernel_rfl) (by kernel_rfl) .i64 .i64 l l h0 (Int.le_refl _) hb (by omega)
  have hz : madeCells #[.bool false] l.toNat = cellsB (List.replicate l.toNat false) := by
    apply Array.ext'
    rw [toList_madeCells_one]
    simp [cellsB]
  rw [h, show Tryz.t4.size = 1 by kernel_rfl, Nat.mul_one]
  simp only [Value.cells, hz]

/-- One number of the list z is looked at. -/
def zstep (S : St) (z : Nat) (p : List Bool × Nat) (id : Int) : Option (List Bool × Nat) :=
  if id < 0 ∨ (S.objs.length : Int) ≤ id then none
  else if gtb p.1 id.toNat = true then none
  else if ¬ gt (rowAt S.objs id.toNat) 3 = z then none
  else if standsB (rowAt S.objs id.toNat) z = false then none
  else some (p.1.set id.toNat true, p.2 + 1)
def zlist (S : St) (z : Nat) (p : List Bool × Nat) (l : List Int) : Option (List Bool × Nat) := l.foldlM (zstep S z) p
def zTo (S : St) (k : Nat) : Option (List Bool × Nat) := (List.range k).foldlM (fun p z => zlist S z p (S.list z)) (List.replicate S.objs.length false, 0)
/-- Are the lists as they must be? -/
def zonesB (S : St) : Bool := match zTo S 11 with
  | none => false
  | some p => (p.2 : Int) == S.objs.length
theorem take_snoc (c : List Int) (k : Nat) (h : k < c.length) : c.take (k + 1) = c.take k ++ [gt c k] := by
  rw [List.take_add_one, List.getElem?_eq_getElem h]; simp [gt, h]
theorem zlist_succ {S : St} {z : Nat} {p0 p : List Bool × Nat} {l : List Int} {k : Nat} (hk : k < l.length) (h : zlist S z p0 (l.take k) = some p) : zlist S z p0 (l.take (k + 1)) = zstep S z p (gt l k) := by
  unfold zlist at *
  rw [take_snoc l k hk, List.foldlM_append, h]
  simp
theorem zlist_none {S : St} {z : Nat} {p0 : List Bool × Nat} {l : List Int} {k : Nat} (h : zlist S z p0 (l.take k) = none) : zlist S z p0 l = none := by
  unfold zlist at *
  rw [← List.take_append_drop k l, List.foldlM_append, h]
  rfl
theorem zTo_succ {S : St} {k : Nat} {p : List Bool × Nat} (h : zTo S k = some p) : zTo S (k + 1) = zlist S k p (S.list k) := by
  unfold zTo at *
  rw [List.range_succ, List.foldlM_append, h]
  simp
theorem zTo_none {S : St} {k n : Nat} (hk : k ≤ n) (h : zTo S k = none) : zTo S n = none := by
  induction n with
  | zero => rw [show k = 0 by omega] at h; exact h
  | succ n ih =>
    by_cases e : k = n + 1
    · subst e; exact h
    · have := ih (by omega)
      unfold zTo at *
      rw [List.range_succ, List.foldlM_append, this]; rfl

set_option maxRecDepth 100000 in
set_option maxHeartbeats 4000000 in
theorem zones_any (S : St) (V : SV) (w : World) (R : RepSt w V S) (hS : Small S) :
    Calls Tryz.prog 105 #[.agg (stA V S.num)] w fun e w' => e = .returned (.bool (zonesB S)) ∧ Grow w w' := by
  have hN := R.objs.len
  have hSO := hS.objs
  have hLN := fun z hz => (R.list z hz).len
  have hm0 : 0 ≤ (S.objs.length : Int) := by omega
  have hm1 : (S.objs.length : Int) ≤ 1099511627776 := by omega
  go_enter Tryz.func105, Tryz.ntmps105
  go_wp2_with fail
  go_loopw [4, 16] (fun m i wr => ∃ (z : Nat) (p : List Bool × Nat) (x : Ext), z ≤ 11 ∧ i = .int .i64 z ∧ m = .int .i64 p.2 ∧ Hid (zTo S z = some p) ∧ p.1.length = S.objs.length ∧ p.2 ≤ z * 1048576 ∧
    wr = ((w.alloc (.cells (stA V S.num) 29)).alloc (.cells (cellsB p.1) 4)).plus x) (fun _ i _ => 11 - (intOf i).toNat)
  case atStart => exact ⟨0, (List.replicate S.objs.length false, 0), Ext.none, by omega, rfl, rfl, rfl, by simp, by omega, by rw [plus_none]⟩
  case round =>
    obtain ⟨z, p, x, hz, rfl, rfl, hto, hpl, hpm, rfl⟩ := hrel
    by_cases hzt : z < 11
    · have hlz := hLN z hzt
      have hsz := hS.list z hzt
      go_wp2_with fail
      rw [show decide ((z : Int) < 11) = true by simp; omega]
      go_loopw [4, 22] (fun m i wr => ∃ (k : Nat) (q : List Bool × Nat) (y : Ext), k ≤ (S.list z).length ∧ i = .int .i64 k ∧ m = .int .i64 q.2 ∧ Hid (zlist S z p ((S.list z).take k) = some q) ∧ q.1.length = S.objs.length ∧ q.2 ≤ z * 1048576 + k ∧
        wr = ((w.alloc (.cells (stA V S.num) 29)).alloc (.cells (cellsB q.1) 4)).plus y) (fun _ i _ => (S.list z).length - (intOf i).toNat)
      case atStart => exact ⟨0, p, x, Nat.zero_le _, rfl, rfl, (by rw [Hid, List.take_zero]; rfl), hpl, Nat.le_trans hpm (Nat.le_add_right _ _), rfl⟩
      case round =>
        obtain ⟨k, q, y, hk, rfl, rfl, hzl, hql, hqm, rfl⟩ := hrel
        by_cases hkt : k < (S.list z).length
        · obtain ⟨hlb, hlc⟩ := (R.list z hzt).at k hkt
          have hst := zlist_succ hkt hzl.out
          have HST := Lib.hid hst
          have hnone : zstep S z q (gt (S.list z) k) = none → zonesB S = false := fun h => by
            have h1 := zlist_none (hst.trans h)
            have h2 := zTo_succ hto.out
            have h3 := zTo_none (n := 11) (by omega) (h2.trans h1)
            rw [zonesB, h3]
          have HNO := Lib.hid hnone
          clear hst hnone
          generalize hid : gt (S.list z) k = id at *
          have HID := Lib.hid hid
          clear hid
          by_cases h0 : id < 0
          · have hbad : Hid (zonesB S = false) := HNO.out (by rw [zstep, if_pos (by omega)])
            go_wp2_with fail
            go_ret
            exact ⟨ret_bool hbad.out.symm, grI⟩
          · by_cases hn : (S.objs.length : Int) ≤ id
            · have hbad : Hid (zonesB S = false) := HNO.out (by rw [zstep, if_pos (by omega)])
              go_wp2_with fail
              go_ret
              exact ⟨ret_bool hbad.out.symm, grI⟩
            · obtain ⟨d, rfl⟩ := Int.eq_ofNat_of_zero_le (show 0 ≤ id by omega)
              have hd : d < S.objs.length := by omega
              by_cases hseen : gtb q.1 d = true
              · have hbad : Hid (zonesB S = false) := HNO.out (by rw [zstep, if_neg (by omega), if_pos (by simpa using hseen)])
                go_wp2_with fail
                go_ret
                exact ⟨ret_bool hbad.out.symm, grI⟩
              · have hseen' : gtb q.1 d = false := by simpa using hseen
                clear hseen
                obtain ⟨hob, how, hosz, hosub, hocell⟩ := R.objs.at (by omega) d hd
                clear hocell
                generalize hrow : rowAt S.objs d = row at *
                have HROW := Lib.hid hrow
                clear hrow
                by_cases hzo : gt row 3 = z
                · by_cases hstd : standsB row z = true
                  · have hnew : Hid (zlist S z p ((S.list z).take (k + 1)) = some (q.1.set d true, q.2 + 1)) := by
                      rw [Hid, HST.out, zstep, if_neg (by omega), if_neg (by rw [Int.toNat_natCast]; simp [hseen']), Int.toNat_natCast, HROW.out, if_neg (by simp [hzo]), if_neg (by simp [hstd])]
                    go_wp2_with (go_at_call 161; refine (stands_any _ _ how _).mono ?_; rintro e w' ⟨rfl, nx, rfl⟩)
                    go_roundw
                    case rel => exact ⟨k + 1, (q.1.set d true, q.2 + 1), _, by omega, by go_num, by go_num, hnew, by simp [hql], by omega, by rw [plus_alloc, plus_plus]⟩
                    case measure => simp [intOf]; omega
                  · have hstd' : standsB row z = false := by simpa using hstd
                    have hbad : Hid (zonesB S = false) := HNO.out (by
                      rw [zstep, if_neg (by omega), if_neg (by rw [Int.toNat_natCast]; simp [hseen']), Int.toNat_natCast, HROW.out, if_neg (by simp [hzo]), if_pos hstd'])
                    clear hstd
                    go_wp2_with (go_at_call 161; refine (stands_any _ _ how _).mono ?_; rintro e w' ⟨rfl, nx, rfl⟩)
                    go_ret
                    exact ⟨ret_bool hbad.out.symm, grI⟩
                · have hbad : Hid (zonesB S = false) := HNO.out (by
                    rw [zstep, if_neg (by omega), if_neg (by rw [Int.toNat_natCast]; simp [hseen']), Int.toNat_natCast, HROW.out, if_pos hzo])
                  go_wp2_with fail
                  go_ret
                  exact ⟨ret_bool hbad.out.symm, grI⟩
        · have hzn : Hid (zTo S (z + 1) = some q) := by
            have h1 := hzl.out
            rw [List.take_of_length_le (by omega)] at h1
            rw [Hid, zTo_succ hto.out, h1]
          go_wp2_with fail
          go_roundw
          case rel => exact ⟨z + 1, q, _, by omega, by go_num, rfl, hzn, hql, by omega, rfl⟩
          case measure => simp [intOf]; omega
    · have hz2 : Hid (zonesB S = ((p.2 : Int) == S.objs.length)) := by rw [Hid, zonesB, ← show z = 11 by omega, hto.out]
      go_wp2_with fail
      go_ret
      exact ⟨ret_bool hz2.out.symm, grI⟩
end Go.Proofs.YtgobdndjemicjaaGreatDoor
namespace Go.Proofs.YtgobdndjemicjaaGreatDoor
open Go Go.RowKit Go.Shelf Go.Lib

theorem blk_cell {w : World} {b i : Nat} {c : List Int} (h : w.blk b = cellsOf c) (hi : i < c.length) : w.cell? ⟨b, i, none⟩ = some (I (gt c i)) := by
  have h1 : (w.blk b)[i]? = some (I (gt c i)) := by rw [h, cellsOf_get _ _ hi]
  unfold World.blk at h1
  cases ho : w.heap[b]? with
  | none => simp [ho] at h1
  | some o =>
    cases o <;> simp only [ho] at h1 <;> try (simp at h1; done)
    simp only [World.cell?, ho]
    exact h1

def restingL : List (Fin 18) := [4, 5, 6, 7, 8, 9, 10, 11, 12]
def encF (f : Fin 18) : Value := .int .i64 (f.val : Int)
theorem pred_formed (o : List Int) (ho : o.length = 18) (b : Nat) (w : World) (hb : b < w.heap.size) (hc : w.blk b = cellsOf o) :
    PredAt Tryz.prog 164 #[.pointer (some ⟨b, 0, none⟩)] encF (fun f => gt o f.val != 0) w := fun W f hbl => by
  have hcell : W.cell? ⟨b, f.val, none⟩ = some (I (gt o f.val)) := by
    rw [World.cell?_of_block (hbl.block b hb)]
    exact blk_cell hc (by omega)
  have hf := f.isLt
  show Calls Tryz.prog 164 #[.int .i64 (f.val : Int), .pointer (some ⟨b, 0, none⟩)] W _
  go_enter Tryz.func164, Tryz.ntmps164
  go_wp2
  all_goals (go_ret; exact ⟨rfl, 0, rfl⟩)

/-- Has an object that stands elsewhere nothing that belongs to the field? -/
def formedB (o : List Int) : Bool := !(gt o 3 != 8 && restingL.any fun f => gt o f.val != 0) && !(decide (gt o 3 < 8) && gt o 2 != gt o 1) && (gt o 3 == 9 || gt o 16 == 0)

set_option maxRecDepth 100000 in
set_option maxHeartbeats 2000000 in
theorem formed_any (o : List Int) (ho : o.length = 18) (w : World) (G : Glob w) :
    Calls Tryz.prog 108 #[.agg (cellsOf o)] w fun e w' => e = .returned (.bool (formedB o)) ∧ Grow w w' := by
  have eg : ∀ args w, (callFunc 164 args).run Tryz.prog w = .ok (.enter 164 args) w := enters_of Tryz.func164 (by kernel_rfl) rfl
  have hcon := AnyE.slices_ContainsFunc Tryz.hasInts encF (fun f => gt o f.val != 0) 164 #[.pointer (some ⟨w.heap.size, 0, none⟩)] eg 2 0 9 9 restingL (w.alloc (.cells (cellsOf o) 77))
    (pred_formed o ho _ _ (by rw [alloc_size']; omega) (by rw [blk_alloc, if_pos rfl])) (by decide) (by decide) (fun j hj => by
      have hj9 : j < 9 := hj
      rw [alloc_cell, if_neg (by have := G.size; omega), Nat.zero_add, blk_cell G.resting (by exact hj)]
      have : j = 0 ∨ j = 1 ∨ j = 2 ∨ j = 3 ∨ j = 4 ∨ j = 5 ∨ j = 6 ∨ j = 7 ∨ j = 8 := by omega
      rcases this with rfl | rfl | rfl | rfl | rfl | rfl | rfl | rfl | rfl <;> rfl)
  change Calls Tryz.prog 163 _ _ _ at hcon
  rw [show restingL.take 9 = restingL from rfl] at hcon
  have HB : Hid (formedB o = (!(gt o 3 != 8 && restingL.any fun f => gt o f.val != 0) && !(decide (gt o 3 < 8) && gt o 2 != gt o 1) && (gt o 3 == 9 || gt o 16 == 0))) := rfl
  generalize (restingL.any fun f => gt o f.val != 0) = r at hcon HB
  have HCON := Lib.hid hcon
  clear hcon
  by_cases h8 : gt o 3 = 8
  · go_enter Tryz.func108, Tryz.ntmps108
    go_wp2_with fail
    all_goals go_ret
    all_goals exact ⟨ret_bool (by rw [HB.out]; simp_all), grI⟩
  · go_enter Tryz.func108, Tryz.ntmps108
    go_wp2_with (go_at_call 163; refine HCON.out.mono ?_; rintro e w' ⟨rfl, q, rfl⟩)
    all_goals go_ret
    all_goals exact ⟨ret_bool (by rw [HB.out]; cases r <;> simp_all <;> omega), grI⟩
end Go.Proofs.YtgobdndjemicjaaGreatDoor
namespace Go.Proofs.YtgobdndjemicjaaGreatDoor
open Go Go.RowKit

def longTo (S : St) (most : Int) (k : Nat) : Bool := (List.range k).any fun z => decide (most + 10 < (S.list z).length)
def longB (S : St) (most : Int) : Bool := decide (most < S.objs.length) || longTo S most 11


set_option maxRecDepth 100000 in
theorem long_any (S : St) (V : SV) (most : Int) (hm : 0 ≤ most ∧ most ≤ 1000) (w : World) (R : RepSt w V S) :
    Calls Tryz.prog 9 #[.agg (stA V S.num), .int .i64 most] w fun e w' => e = .returned (.bool (longB S most)) ∧ Grow w w' := by
  have hN := R.objs.len
  have hL := fun z hz => (R.list z hz).len
  by_cases h0 : most < S.objs.length
  · go_enter Tryz.func9, Tryz.ntmps9
    go_wp2_with fail
    go_ret
    exact ⟨ret_bool (by simp [longB, h0]), grI⟩
  go_enter Tryz.func9, Tryz.ntmps9
  go_wp2_with fail
  go_loopw [6, 14] (fun _ i wr => ∃ k : Nat, k ≤ 11 ∧ i = .int .i64 k ∧ Hid (longTo S most k = false) ∧ Grow w wr) (fun _ i _ => 11 - (intOf i).toNat)
  case atStart => exact ⟨0, by omega, rfl, rfl, grI⟩
  case round =>
    obtain ⟨k, hk, rfl, hno, x, rfl⟩ := hrel
    by_cases hlt : k < 11
    · have hlk := hL k hlt
      by_cases hbig : most + 10 < (S.list k).length
      · go_wp2_with fail
        go_ret
        exact ⟨ret_bool (by rw [longB, Bool.or_eq_true_iff.2]; right; rw [longTo, List.any_eq_true]; exact ⟨k, List.mem_range.2 hlt, by simpa using hbig⟩), grI⟩
      · have hs : Hid (longTo S most (k + 1) = false) := by
          have := hno.out
          rw [longTo] at this
          rw [Hid, longTo, List.range_succ, List.any_append, this]; simp; omega
        go_wp2_with fail
        go_roundw
        case rel => exact ⟨k + 1, by omega, by go_num, hs, grI⟩
        case measure => simp [intOf]; omega
    · have hk11 : Hid (longTo S most 11 = false) := by rw [Hid, ← show k = 11 by omega]; exact hno.out
      go_wp2_with fail
      go_ret
      exact ⟨ret_bool (by rw [longB, hk11.out]; simp; omega), grI⟩
end Go.Proofs.YtgobdndjemicjaaGreatDoor
namespace Go.Proofs.YtgobdndjemicjaaGreatDoor
open Go Go.RowKit Go.Shelf Go.Lib

theorem Glob.below {w W : World} (h : Glob w) (hb : Below w.heap.size w W) : Glob W := h.grow (Grow.of_below hb)

structure Row18 where
  l : List Int
  h : l.length = 18
instance : Inhabited Row18 := ⟨⟨List.replicate 18 0, rfl⟩⟩
def mk18 (l : List Int) : Row18 := if h : l.length = 18 then ⟨l, h⟩ else default
theorem mk18_l {l : List Int} (h : l.length = 18) : (mk18 l).l = l := by rw [mk18, dif_pos h]
def enc18 (r : Row18) : List Value := r.l.map I

theorem pred_check (w : World) (G : Glob w) : PredBelow Tryz.prog 107 #[] (fun r => .agg (enc18 r).toArray) (fun r => !formedB r.l) w := fun W r hb => by
  have GW := Lib.hid (G.below hb)
  have hl := r.h
  show Calls Tryz.prog 107 #[.agg (cellsOf r.l)] W _
  have key : Calls Tryz.prog 107 #[.agg (cellsOf r.l)] W fun e w' => e = .returned (.bool (!formedB r.l)) ∧ Grow W w' := by
    go_enter Tryz.func107, Tryz.ntmps107
    go_wp2_with (go_at_call 108; refine (formed_any _ hl _ (GW.out.grow grI)).mono ?_; rintro e w' ⟨rfl, nx, rfl⟩)
    go_ret
    exact ⟨rfl, grI⟩
  refine key.mono ?_
  rintro e w' ⟨he, hg⟩
  exact ⟨he, hb.trans (hg.below.mono hb.size)⟩

def noForm (S : St) : Bool := S.objs.any fun o => !formedB o
def checkN (S : St) : Int := if 400 < S.objs.length then 5 else if rangesB S = false then 1 else if zonesB S = false then 12 else if noForm S = true then 2 else 0
def errV (n : Int) : Value := if n = 0 then .nilIface else .iface 96 (.int .i64 n)

theorem rowAt_mem {l : List (List Int)} {r : List Int} (h : r ∈ l) : ∃ i, i < l.length ∧ rowAt l i = r := by
  obtain ⟨i, hi, rfl⟩ := List.mem_iff_getElem.1 h
  exact ⟨i, hi, by simp [rowAt, hi]⟩

theorem idxObjs_empty (s : Sl) (hn : s.n = 0) (fv : Value) (w : World) :
    Calls Tryz.prog 162 #[s.val, fv] w fun e w' => e = .returned (.int .i64 (-1)) ∧ Grow w w' := by
  go_enter Tryz.func162, Tryz.ntmps162
  go_wp2_with fail
  go_loopw [8] (fun i wr => i = .int .i64 0 ∧ Grow w wr) (fun _ _ => 0)
  case atStart => exact ⟨rfl, grI⟩
  case round =>
    obtain ⟨rfl, x, rfl⟩ := hrel
    go_wp2_with fail
    go_ret
    exact ⟨rfl, grI⟩
theorem hasObjs_empty (s : Sl) (hn : s.n = 0) (fv : Value) (w : World) :
    Calls Tryz.prog 106 #[s.val, fv] w fun e w' => e = .returned (.bool false) ∧ Grow w w' := by
  go_enter Tryz.func106, Tryz.ntmps106
  go_wp2_with (go_at_call 162; refine (idxObjs_empty _ hn _ _).mono ?_; rintro e w' ⟨rfl, nx, rfl⟩)
  go_ret
  exact ⟨rfl, grI⟩

theorem hasForm_any (S : St) (V : SV) (w : World) (R : RepSt w V S) (hS : Small S) (G : Glob w) :
    Calls Tryz.prog 106 #[V.objs.val, .func (.func 107) #[] #[]] w fun e w' => e = .returned (.bool (noForm S)) ∧ Grow w w' := by
  have eg : ∀ args w, (callFunc 107 args).run Tryz.prog w = .ok (.enter 107 args) w := enters_of Tryz.func107 (by kernel_rfl) rfl
  have hz : (S.objs.map mk18).any (fun r => !formedB r.l) = noForm S := by
    rw [List.any_map, noForm]
    rw [Bool.eq_iff_iff, List.any_eq_true, List.any_eq_true]
    refine exists_congr fun o => and_congr_right fun ho => ?_
    obtain ⟨i, hi, rfl⟩ := rowAt_mem ho
    rw [Function.comp, mk18_l (R.objs.wid i hi)]
  by_cases hn : S.objs.length = 0
  · refine (hasObjs_empty V.objs (by rw [R.objs.len]; exact hn) _ w).mono ?_
    rintro e w' ⟨he, hg⟩
    exact ⟨by rw [he, noForm, List.eq_nil_of_length_eq_zero hn]; rfl, hg⟩
  · have hs := V.objs.mk_of (by rw [R.objs.len]; omega)
    rw [hs]
    have hcon := AnyQ.slices_ContainsFunc Tryz.hasObjs 18 (fun w => by kernel_rfl) (fun w => by kernel_rfl) enc18 (fun r => by rw [enc18, List.length_map, r.h]) (fun r => !formedB r.l) 107 #[] eg V.objs.b V.objs.o V.objs.n V.objs.c (S.objs.map mk18) w (pred_check w G)
      (by rw [List.length_map, R.objs.len]; omega) (by rw [R.objs.len]; have := hS.objs; omega) (R.objs.at (by omega) 0 (by omega)).1 (fun j hj i v hv => by
        rw [List.length_map] at hj
        have hj' : j < (S.objs.map mk18).length := by rw [List.length_map]; exact hj
        rw [getElem!_pos (S.objs.map mk18) j hj', List.getElem_map, enc18] at hv
        have e : S.objs[j] = rowAt S.objs j := by simp [rowAt, hj]
        rw [e, mk18_l (R.objs.wid j hj)] at hv
        have hi : i < 18 := by
          have := (List.getElem?_eq_some_iff.1 hv).1
          rw [List.length_map, R.objs.wid j hj] at this; exact this
        rw [R.objs.cell j i hj hi, ← hv, List.getElem?_map, List.getElem?_eq_getElem (by rw [R.objs.wid j hj]; exact hi)]
        simp [gt, R.objs.wid j hj, hi])
    refine hcon.mono ?_
    rintro e w' ⟨he, hb⟩
    refine ⟨?_, Grow.of_below hb⟩
    rw [he, List.take_of_length_le (by rw [List.length_map, R.objs.len]; omega), hz]

set_option maxRecDepth 100000 in
set_option maxHeartbeats 2000000 in
theorem check_any (S : St) (V : SV) (w : World) (R : RepSt w V S) (hS : Small S) (G : Glob w) :
    Calls Tryz.prog 47 #[.agg (stA V S.num)] w fun e w' => e = .returned (errV (checkN S)) ∧ Grow w w' := by
  have hN := R.objs.len
  have hSO := hS.objs
  have HR := Lib.hid R
  have HG := Lib.hid G
  have HS := Lib.hid hS
  clear R G hS
  by_cases h400 : 400 < S.objs.length
  · have hv : Hid (errV (checkN S) = .iface 96 (.int .i64 5)) := by rw [Hid, checkN, if_pos h400]; rfl
    go_enter Tryz.func47, Tryz.ntmps47
    go_wp2_with fail
    go_ret
    exact ⟨by rw [hv.out]; rfl, grI⟩
  · have HV : Hid (errV (checkN S) = if rangesB S = false then .iface 96 (.int .i64 1) else if zonesB S = false then .iface 96 (.int .i64 12) else if noForm S = true then .iface 96 (.int .i64 2) else .nilIface) := by
      rw [Hid, checkN, if_neg h400]
      (repeat' split) <;> rfl
    go_enter Tryz.func47, Tryz.ntmps47
    go_wp2_with (first | (go_at_call 104; refine (ranges_any S V _ (HR.out.grow grI) HS.out (HG.out.grow grI)).mono ?_; rintro e w' ⟨rfl, nx, rfl⟩) | (go_at_call 105; refine (zones_any S V _ (HR.out.grow grI) HS.out).mono ?_; rintro e w' ⟨rfl, nx, rfl⟩) | (go_at_call 106; refine (hasForm_any S V _ (HR.out.grow grI) HS.out (HG.out.grow grI)).mono ?_; rintro e w' ⟨rfl, nx, rfl⟩))
    all_goals go_ret
    all_goals exact ⟨by rw [HV.out]; simp_all, grI⟩
end Go.Proofs.YtgobdndjemicjaaGreatDoor
namespace Go.Proofs.YtgobdndjemicjaaGreatDoor
open Go Go.RowKit

def cntTo (S : St) (id : Int) (k : Nat) : Nat := ((List.range k).map fun z => (S.list z).count id).sum
theorem cntTo_succ (S : St) (id : Int) (k : Nat) : cntTo S id (k + 1) = cntTo S id k + (S.list k).count id := by simp [cntTo, List.range_succ]
end Go.Proofs.YtgobdndjemicjaaGreatDoor
namespace Go.Proofs.YtgobdndjemicjaaGreatDoor
open Go Go.RowKit

def OkAt (S : St) (z : Nat) (x : Int) : Prop := 0 ≤ x ∧ x < S.objs.length ∧ gt (rowAt S.objs x.toNat) 3 = z ∧ standsB (rowAt S.objs x.toNat) z = true
/-- Each object stands in one list, once, and in its own. -/
structure Zon (S : St) : Prop where
  ok : ∀ z, z < 11 → ∀ x ∈ S.list z, OkAt S z x
  once : ∀ id : Nat, id < S.objs.length → cntTo S id 11 = 1

/-- All lists, one behind the other. -/
def allTo (S : St) (k : Nat) : List Int := (List.range k).flatMap S.list
theorem allTo_succ (S : St) (k : Nat) : allTo S (k + 1) = allTo S k ++ S.list k := by simp [allTo, List.range_succ]
theorem mem_allTo (S : St) (k : Nat) (x : Int) : x ∈ allTo S k ↔ ∃ z, z < k ∧ x ∈ S.list z := by simp [allTo]
theorem cnt_allTo (S : St) (x : Int) : ∀ k, cntTo S x k = (allTo S k).count x
  | 0 => rfl
  | k + 1 => by rw [cntTo_succ, allTo_succ, List.count_append, cnt_allTo S x k]

structure Seen (S : St) (V : List Int) (p : List Bool × Nat) : Prop where
  many : p.2 = V.length
  len : p.1.length = S.objs.length
  nodup : V.Nodup
  mem : ∀ i : Nat, gtb p.1 i = true ↔ (i : Int) ∈ V
theorem gtb_set (l : List Bool) (i j : Nat) (h : i < l.length) : gtb (l.set i true) j = if i = j then true else gtb l j := by
  unfold gtb List.getD
  rw [List.getElem?_set]
  by_cases e : i = j
  · subst e; rw [if_pos rfl, if_pos h, if_pos rfl]; rfl
  · rw [if_neg e, if_neg e]
theorem Seen.push {S : St} {V : List Int} {p : List Bool × Nat} {x : Int} (h : Seen S V p) (h0 : 0 ≤ x) (h1 : x < S.objs.length) (hx : x ∉ V) : Seen S (V ++ [x]) (p.1.set x.toNat true, p.2 + 1) := by
  have hl := h.len
  refine ⟨by simp [h.many], by simp [hl], ?_, fun i => ?_⟩
  · rw [List.nodup_append]
    refine ⟨h.nodup, by simp, ?_⟩
    intro a ha b hb
    rw [List.mem_singleton] at hb
    subst hb
    intro e; subst e; exact hx ha
  · rw [gtb_set _ _ _ (by omega), List.mem_append, List.mem_singleton, ← h.mem i]
    by_cases e : x.toNat = i
    · rw [if_pos e]; simp; right; omega
    · rw [if_neg e]
      constructor
      · intro h; exact Or.inl h
      · rintro (h | h)
        · exact h
        · omega
theorem zstep_ok {S : St} {V : List Int} {p : List Bool × Nat} {z : Nat} {x : Int} (h : Seen S V p) (hok : OkAt S z x) (hx : x ∉ V) : zstep S z p x = some (p.1.set x.toNat true, p.2 + 1) := by
  obtain ⟨a, b, c, d⟩ := hok
  rw [zstep, if_neg (by omega), if_neg, if_neg (by simp [c]), if_neg (by simp [d])]
  rw [h.mem, Int.toNat_of_nonneg a]; exact hx
theorem zstep_inv {S : St} {V : List Int} {p q : List Bool × Nat} {z : Nat} {x : Int} (h : Seen S V p) (hs : zstep S z p x = some q) : OkAt S z x ∧ x ∉ V ∧ q = (p.1.set x.toNat true, p.2 + 1) := by
  unfold zstep at hs
  by_cases c1 : x < 0 ∨ (S.objs.length : Int) ≤ x
  · rw [if_pos c1] at hs; cases hs
  rw [if_neg c1] at hs
  by_cases c2 : gtb p.1 x.toNat = true
  · rw [if_pos c2] at hs; cases hs
  rw [if_neg c2] at hs
  by_cases c3 : ¬ gt (rowAt S.objs x.toNat) 3 = z
  · rw [if_pos c3] at hs; cases hs
  rw [if_neg c3] at hs
  by_cases c4 : standsB (rowAt S.objs x.toNat) z = false
  · rw [if_pos c4] at hs; cases hs
  rw [if_neg c4] at hs
  refine ⟨⟨by omega, by omega, by simpa using c3, by simpa using c4⟩, ?_, (Option.some.inj hs).symm⟩
  intro hx
  apply c2
  rw [h.mem, Int.toNat_of_nonneg (by omega)]; exact hx
theorem zlist_ok {S : St} {z : Nat} : ∀ (l V : List Int) (p : List Bool × Nat), Seen S V p → (∀ x ∈ l, OkAt S z x) → (V ++ l).Nodup → ∃ q, zlist S z p l = some q ∧ Seen S (V ++ l) q
  | [], V, p, h, _, _ => ⟨p, rfl, by simpa using h⟩
  | x :: l, V, p, h, hok, hn => by
    have hx : x ∉ V := by
      rw [List.nodup_append] at hn
      intro hm
      exact hn.2.2 x hm x (by simp) rfl
    have hx0 := hok x (by simp)
    obtain ⟨q, e, hq⟩ := zlist_ok l (V ++ [x]) _ (h.push hx0.1 hx0.2.1 hx) (fun y hy => hok y (by simp [hy])) (by simpa using hn)
    refine ⟨q, ?_, by simpa using hq⟩
    unfold zlist at *
    rw [List.foldlM_cons, zstep_ok h hx0 hx]
    exact e
theorem zlist_inv {S : St} {z : Nat} : ∀ (l V : List Int) (p q : List Bool × Nat), Seen S V p → zlist S z p l = some q → (∀ x ∈ l, OkAt S z x) ∧ Seen S (V ++ l) q
  | [], V, p, q, h, e => by
    have : p = q := Option.some.inj e
    subst this
    exact ⟨fun x hx => (by cases hx), by simpa using h⟩
  | x :: l, V, p, q, h, e => by
    unfold zlist at e
    rw [List.foldlM_cons] at e
    cases hs : zstep S z p x with
    | none => rw [hs] at e; cases e
    | some r =>
      rw [hs] at e
      obtain ⟨h1, h2, rfl⟩ := zstep_inv h hs
      obtain ⟨h3, h4⟩ := zlist_inv l (V ++ [x]) _ q (h.push h1.1 h1.2.1 h2) e
      refine ⟨fun y hy => ?_, by simpa using h4⟩
      rcases List.mem_cons.1 hy with rfl | hy
      · exact h1
      · exact h3 y hy
theorem seen0 (S : St) : Seen S [] (List.replicate S.objs.length false, 0) := by
  refine ⟨rfl, by simp, by simp, fun i => ?_⟩
  simp only [gtb, List.getD, List.getElem?_replicate]
  by_cases h : i < S.objs.length <;> simp [h]
theorem zTo_ok {S : St} : ∀ k, (∀ z, z < k → ∀ x ∈ S.list z, OkAt S z x) → (allTo S k).Nodup → ∃ q, zTo S k = some q ∧ Seen S (allTo S k) q
  | 0, _, _ => ⟨_, rfl, seen0 S⟩
  | k + 1, hok, hn => by
    rw [allTo_succ] at hn
    obtain ⟨p, e, hp⟩ := zTo_ok k (fun z hz => hok z (by omega)) (List.nodup_append.1 hn).1
    obtain ⟨q, e2, hq⟩ := zlist_ok (S.list k) _ p hp (hok k (by omega)) hn
    exact ⟨q, by rw [zTo_succ e, e2], by rw [allTo_succ]; exact hq⟩
theorem zTo_inv {S : St} : ∀ k q, zTo S k = some q → (∀ z, z < k → ∀ x ∈ S.list z, OkAt S z x) ∧ Seen S (allTo S k) q
  | 0, q, e => by
    have : (List.replicate S.objs.length false, 0) = q := Option.some.inj e
    subst this
    exact ⟨fun z hz => by omega, seen0 S⟩
  | k + 1, q, e => by
    cases hs : zTo S k with
    | none => rw [zTo_none (Nat.le_succ k) hs] at e; cases e
    | some p =>
      rw [zTo_succ hs] at e
      obtain ⟨h1, h2⟩ := zTo_inv k p hs
      obtain ⟨h3, h4⟩ := zlist_inv (S.list k) _ p q h2 e
      refine ⟨fun z hz x hx => ?_, by rw [allTo_succ]; exact h4⟩
      by_cases e : z = k
      · subst e; exact h3 x hx
      · exact h1 z (by omega) x hx

theorem len_le_of_sub {α : Type} [BEq α] [LawfulBEq α] : ∀ (l L : List α), l.Nodup → (∀ x ∈ l, x ∈ L) → l.length ≤ L.length
  | [], L, _, _ => Nat.zero_le _
  | x :: l, L, hn, hs => by
    have hx := hs x (by simp)
    have hn' := List.nodup_cons.1 hn
    have := len_le_of_sub l (L.erase x) hn'.2 (fun y hy => (List.mem_erase_of_ne (by rintro rfl; exact hn'.1 hy)).2 (hs y (by simp [hy])))
    rw [List.length_erase_of_mem hx] at this
    have := List.length_pos_of_mem hx
    simp; omega
theorem ints_nodup (n : Nat) : ((List.range n).map (Int.ofNat)).Nodup := by
  rw [List.nodup_iff_pairwise_ne, List.pairwise_map]
  exact (List.nodup_range (n := n)).imp (fun h e => h (Int.ofNat.inj e))
/-- So many numbers below n, none twice: each stands there. -/
theorem mem_of_full (l : List Int) (n : Nat) (hn : l.Nodup) (hb : ∀ x ∈ l, 0 ≤ x ∧ x < n) (hl : l.length = n) (id : Nat) (hid : id < n) : (id : Int) ∈ l := by
  by_cases h : (id : Int) ∈ l
  · exact h
  exfalso
  have h1 := len_le_of_sub ((id : Int) :: l) ((List.range n).map Int.ofNat) (List.nodup_cons.2 ⟨h, hn⟩) (fun x hx => by
    rw [List.mem_map]
    rcases List.mem_cons.1 hx with rfl | hx
    · exact ⟨id, List.mem_range.2 hid, rfl⟩
    · obtain ⟨a, b⟩ := hb x hx
      exact ⟨x.toNat, List.mem_range.2 (by omega), by simp; omega⟩)
  simp at h1; omega

theorem zonesB_iff (S : St) : zonesB S = true ↔ Zon S := by
  unfold zonesB
  constructor
  · intro h
    cases hs : zTo S 11 with
    | none => rw [hs] at h; cases h
    | some p =>
      rw [hs] at h
      obtain ⟨h1, h2⟩ := zTo_inv 11 p hs
      have hl : (allTo S 11).length = S.objs.length := by
        have : (p.2 : Int) = S.objs.length := by simpa using h
        rw [← h2.many]; omega
      refine ⟨h1, fun id hid => ?_⟩
      rw [cnt_allTo]
      have hm := mem_of_full (allTo S 11) S.objs.length h2.nodup (fun x hx => by
        obtain ⟨z, hz, hx⟩ := (mem_allTo S 11 x).1 hx
        exact ⟨(h1 z hz x hx).1, (h1 z hz x hx).2.1⟩) hl id hid
      have h3 := List.nodup_iff_count.1 h2.nodup (id : Int)
      have h4 := List.count_pos_iff.2 hm
      omega
  · intro h
    have hn : (allTo S 11).Nodup := by
      rw [List.nodup_iff_count]
      intro x
      by_cases hx : x ∈ allTo S 11
      · obtain ⟨z, hz, hx'⟩ := (mem_allTo S 11 x).1 hx
        obtain ⟨a, b, _⟩ := h.ok z hz x hx'
        have := h.once x.toNat (by omega)
        rw [cnt_allTo, Int.toNat_of_nonneg a] at this
        omega
      · rw [List.count_eq_zero.2 hx]; omega
    obtain ⟨q, e, hq⟩ := zTo_ok 11 h.ok hn
    rw [e]
    show ((q.2 : Int) == S.objs.length) = true
    rw [hq.many]
    have h1 := len_le_of_sub (allTo S 11) ((List.range S.objs.length).map Int.ofNat) hn (fun x hx => by
      obtain ⟨z, hz, hx'⟩ := (mem_allTo S 11 x).1 hx
      obtain ⟨a, b, _⟩ := h.ok z hz x hx'
      rw [List.mem_map]
      exact ⟨x.toNat, List.mem_range.2 (by omega), by simp; omega⟩)
    have h2 := len_le_of_sub ((List.range S.objs.length).map Int.ofNat) (allTo S 11) (ints_nodup _) (fun x hx => by
      obtain ⟨i, hi, rfl⟩ := List.mem_map.1 hx
      have := h.once i (List.mem_range.1 hi)
      rw [cnt_allTo] at this
      exact List.count_pos_iff.1 (by show 0 < List.count (i : Int) _; omega))
    simp at h1 h2 ⊢
    omega

end Go.Proofs.YtgobdndjemicjaaGreatDoor
namespace Go.Proofs.YtgobdndjemicjaaGreatDoor
open Go Go.RowKit

def inR (n e : Int) : Bool := decide (0 ≤ n) && decide (n < e)
def evMakes (e : List Int) : Bool := gt e 0 == 0 || gt e 0 == 5
def evSpare (e : List Int) : Bool := if evMakes e = true then gt e 4 == 0 && gt e 5 == 0 else if gt e 0 = 1 then true else gt e 5 == 0 && (gt e 0 != 4 || gt e 1 == 0)
def evSmall (e : List Int) : Bool := inB (gt e 4) (-1073741824) 1073741824
def evRanges (e : List Int) : Bool :=
  if gt e 0 = 0 ∨ gt e 0 = 5 then inR (gt e 1) 120 && inR (gt e 2) 2 && inR (gt e 3) 3
  else if gt e 0 = 1 then decide (0 ≤ gt e 1) && inR (gt e 2) 11 && inR (gt e 4) 11 && decide (0 ≤ gt e 3) && decide (0 ≤ gt e 5)
  else if gt e 0 = 2 then decide (0 ≤ gt e 1) && inR (gt e 2) 18 && gt e 2 != 3 && evSmall e
  else if gt e 0 = 3 then inR (gt e 1) 2 && inR (gt e 2) 9 && evSmall e
  else inR (gt e 2) 7 && evSmall e
/-- May the event be? An error's number. -/
def evCheck (e : List Int) : Int := if inR (gt e 0) 6 = false then 6 else if evSpare e = false then 2 else if evRanges e = false then 1 else 0
def evMade (e : List Int) : List Int := [gt e 1, gt e 2, gt e 2, 10, 0, 0, 0, 0, 0, 0, 0, 0, 0, gt e 3, 0, 0, 0, 3]

def St.setObj (S : St) (i f : Nat) (x : Int) : St := { S with objs := S.objs.set i ((rowAt S.objs i).set f x) }
def St.setNum (S : St) (i : Nat) (x : Int) : St := { S with num := upd S.num i x }
def createS (S : St) (e : List Int) : Except Int St :=
  if 400 ≤ S.objs.length then .error 5 else .ok { S with objs := S.objs ++ [evMade e], list := upd S.list 10 (S.list 10 ++ [(S.objs.length : Int)]) }
def removeS (S : St) (e : List Int) : Except Int St :=
  if 0 < S.objs.length ∧ 0 < (S.list 10).length ∧ gt (S.list 10) ((S.list 10).length - 1) = (S.objs.length : Int) - 1 ∧ rowAt S.objs (S.objs.length - 1) = evMade e
  then .ok { S with objs := S.objs.take (S.objs.length - 1), list := upd S.list 10 ((S.list 10).take ((S.list 10).length - 1)) } else .error 20
/-- Where an object goes: the list without it, or another one. -/
def moveTo (S : St) (b c d : Nat) : List Int := if d = b then (S.list b).eraseIdx c else S.list d
def movedS (S : St) (a b c d e : Nat) : St :=
  { objs := S.objs.set a ((rowAt S.objs a).set 3 d), list := upd (upd S.list b ((S.list b).eraseIdx c)) d ((moveTo S b c d).insertIdx e (a : Int)), num := S.num }
def moveS (S : St) (a b c d e : Nat) : Except Int St :=
  if S.objs.length ≤ a then .error 4
  else if ¬ (c < (S.list b).length ∧ gt (S.list b) c = a) then .error 20
  else if (moveTo S b c d).length < e then .error 1
  else .ok (movedS S a b c d e)
/-- The state behind an event, or an error's number. -/
def doEv (S : St) (e : List Int) : Except Int St :=
  if evCheck e ≠ 0 then .error (evCheck e)
  else if gt e 0 = 0 then createS S e
  else if gt e 0 = 5 then removeS S e
  else if gt e 0 = 1 then moveS S (gt e 1).toNat (gt e 2).toNat (gt e 3).toNat (gt e 4).toNat (gt e 5).toNat
  else if gt e 0 = 2 then
    if (S.objs.length : Int) ≤ gt e 1 then .error 4
    else if gt (rowAt S.objs (gt e 1).toNat) (gt e 2).toNat ≠ gt e 3 then .error 20
    else .ok (S.setObj (gt e 1).toNat (gt e 2).toNat (gt e 4))
  else
    let at' := if gt e 0 = 3 then (gt e 1).toNat * 9 + (gt e 2).toNat else 18 + (gt e 2).toNat
    if S.num at' ≠ gt e 3 then .error 20 else .ok (S.setNum at' (gt e 4))

/-- Is a state right? -/
structure Right (S : St) : Prop where
  many : S.objs.length ≤ 400
  ranges : rangesB S = true
  zon : Zon S
  formed : ∀ i, i < S.objs.length → formedB (rowAt S.objs i) = true
theorem rowAt_in (l : List (List Int)) (i : Nat) (h : i < l.length) : rowAt l i ∈ l := by
  rw [rowAt, List.getD, List.getElem?_eq_getElem h]; exact List.getElem_mem h
theorem checkN_zero (S : St) : checkN S = 0 ↔ Right S := by
  unfold checkN
  constructor
  · intro h
    by_cases c1 : 400 < S.objs.length
    · rw [if_pos c1] at h; cases h
    rw [if_neg c1] at h
    by_cases c2 : rangesB S = false
    · rw [if_pos c2] at h; cases h
    rw [if_neg c2] at h
    by_cases c3 : zonesB S = false
    · rw [if_pos c3] at h; cases h
    rw [if_neg c3] at h
    by_cases c4 : noForm S = true
    · rw [if_pos c4] at h; cases h
    refine ⟨by omega, by simpa using c2, (zonesB_iff S).1 (by simpa using c3), fun i hi => ?_⟩
    unfold noForm at c4
    rw [Bool.not_eq_true, List.any_eq_false] at c4
    simpa using c4 _ (rowAt_in _ i hi)
  · intro h
    rw [if_neg (by have := h.many; omega), if_neg (by simp [h.ranges]), if_neg (by simp [(zonesB_iff S).2 h.zon]), if_neg]
    unfold noForm
    rw [Bool.not_eq_true, List.any_eq_false]
    intro r hr
    obtain ⟨i, hi, rfl⟩ := rowAt_mem hr
    simp [h.formed i hi]

/-! ### Moving -/
theorem cnt_upd (S T : St) (z : Nat) (l : List Int) (hT : T.list = upd S.list z l) (x : Int) : ∀ k, cntTo T x k + (if z < k then (S.list z).count x else 0) = cntTo S x k + if z < k then l.count x else 0
  | 0 => rfl
  | k + 1 => by
    have ih := cnt_upd S T z l hT x k
    rw [cntTo_succ, cntTo_succ, hT]
    by_cases e : z = k
    · subst e
      rw [if_neg (by omega), if_neg (by omega)] at ih
      rw [if_pos (by omega), if_pos (by omega), upd_same]; omega
    · rw [upd_ne _ _ _ _ (Ne.symm e)]
      by_cases h : z < k
      · rw [if_pos h, if_pos h] at ih; rw [if_pos (by omega), if_pos (by omega)]; omega
      · rw [if_neg h, if_neg h] at ih; rw [if_neg (by omega), if_neg (by omega)]; omega
theorem count_erase (l : List Int) (c : Nat) (x : Int) (hc : c < l.length) : (l.eraseIdx c).count x + (if gt l c = x then 1 else 0) = l.count x := by
  induction l generalizing c with
  | nil => simp at hc
  | cons y l ih =>
    cases c with
    | zero =>
      rw [List.eraseIdx_zero, List.tail_cons, gt_cons_zero, List.count_cons]
      by_cases e : y = x <;> simp [e]
    | succ c =>
      have := ih c (by simpa using hc)
      rw [List.eraseIdx_cons_succ, List.count_cons, List.count_cons, gt_cons_succ]
      omega
theorem count_insert (l : List Int) (e : Nat) (a x : Int) (he : e ≤ l.length) : (l.insertIdx e a).count x = l.count x + if a = x then 1 else 0 := by
  induction l generalizing e with
  | nil =>
    have : e = 0 := by simpa using he
    subst this
    simp [List.count_cons]
  | cons y l ih =>
    cases e with
    | zero => simp [List.count_cons]
    | succ e =>
      have := ih e (by simpa using he)
      rw [List.insertIdx_succ_cons, List.count_cons, List.count_cons, this]; omega
/-- Behind a move each object stands in as many lists as before. -/
theorem cnt_moved (S : St) (a b c d e : Nat) (hb : b < 11) (hd : d < 11) (hc : c < (S.list b).length) (ha : gt (S.list b) c = a) (he : e ≤ (moveTo S b c d).length) (x : Int) :
    cntTo (movedS S a b c d e) x 11 = cntTo S x 11 := by
  have h1 := cnt_upd S { S with list := upd S.list b ((S.list b).eraseIdx c) } b _ rfl x 11
  have h2 := cnt_upd { S with list := upd S.list b ((S.list b).eraseIdx c) } (movedS S a b c d e) d _ rfl x 11
  rw [if_pos hb, if_pos hb] at h1
  rw [if_pos hd, if_pos hd, count_insert _ _ _ _ he] at h2
  have h3 := count_erase (S.list b) c x hc
  rw [ha] at h3
  have h4 : (upd S.list b ((S.list b).eraseIdx c) d) = moveTo S b c d := by
    unfold moveTo upd
    by_cases e : d = b <;> simp [e]
  simp only [h4] at h2
  omega
theorem cnt_two (S : St) (x : Int) (y z : Nat) (hyz : y < z) : ∀ k, z < k → x ∈ S.list y → x ∈ S.list z → 2 ≤ cntTo S x k
  | 0, h, _, _ => by omega
  | k + 1, h, hy, hz => by
    rw [cntTo_succ]
    by_cases e : z = k
    · subst e
      have h1 := List.count_pos_iff.2 hz
      have h2 : ∀ m, y < m → 0 < cntTo S x m := fun m => by
        induction m with
        | zero => intro h; omega
        | succ m ih =>
          intro h
          rw [cntTo_succ]
          by_cases e : y = m
          · subst e; have := List.count_pos_iff.2 hy; omega
          · have := ih (by omega); omega
      have := h2 z hyz
      omega
    · have := cnt_two S x y z hyz k (by omega) hy hz
      omega
theorem Zon.one {S : St} (h : Zon S) {x : Int} {y z : Nat} (hy : y < 11) (hz : z < 11) (h1 : x ∈ S.list y) (h2 : x ∈ S.list z) : y = z := by
  obtain ⟨a, b, _⟩ := h.ok y hy x h1
  have h3 := h.once x.toNat (by omega)
  rw [Int.toNat_of_nonneg a] at h3
  rcases Nat.lt_trichotomy y z with h | h | h
  · have := cnt_two S x y z h 11 hz h1 h2; omega
  · exact h
  · have := cnt_two S x z y h 11 hy h2 h1; omega
theorem rowAt_set (l : List (List Int)) (i j : Nat) (r : List Int) (h : i < l.length) : rowAt (l.set i r) j = if i = j then r else rowAt l j := by
  unfold rowAt List.getD
  rw [List.getElem?_set]
  by_cases e : i = j
  · subst e; rw [if_pos rfl, if_pos h, if_pos rfl]; rfl
  · rw [if_neg e, if_neg e]
theorem stands_set3 (o : List Int) (h : o.length = 18) (x : Int) (z : Int) : standsB (o.set 3 x) z = standsB o z := by
  unfold standsB
  rw [gt_set _ _ _ _ (by omega), gt_set _ _ _ _ (by omega)]; rfl
theorem Zon.moved {S : St} (h : Zon S) (hw : ∀ i, i < S.objs.length → (rowAt S.objs i).length = 18) (a b c d e : Nat) (hA : a < S.objs.length) (hb : b < 11) (hd : d < 11) (hc : c < (S.list b).length) (ha : gt (S.list b) c = a) (he : e ≤ (moveTo S b c d).length)
    (hs : standsB (rowAt S.objs a) d = true) : Zon (movedS S a b c d e) := by
  have hcnt := cnt_moved S a b c d e hb hd hc ha he
  have hlen : (movedS S a b c d e).objs.length = S.objs.length := by simp [movedS]
  have hmem : (a : Int) ∈ (movedS S a b c d e).list d := by
    show (a : Int) ∈ upd _ d _ d
    rw [upd_same, List.mem_insertIdx he]; exact Or.inl rfl
  have hrow : ∀ j, rowAt (movedS S a b c d e).objs j = if a = j then (rowAt S.objs a).set 3 d else rowAt S.objs j := fun j => rowAt_set _ _ _ _ hA
  have hold : ∀ z, z < 11 → ∀ x ∈ (movedS S a b c d e).list z, x = a ∨ x ∈ S.list z := by
    intro z hz x hx
    have hx : x ∈ upd (upd S.list b ((S.list b).eraseIdx c)) d ((moveTo S b c d).insertIdx e (a : Int)) z := hx
    by_cases e1 : z = d
    · subst e1
      rw [upd_same, List.mem_insertIdx he] at hx
      rcases hx with hx | hx
      · exact Or.inl hx
      · right
        unfold moveTo at hx
        by_cases e2 : z = b
        · subst e2; rw [if_pos rfl] at hx; exact List.mem_of_mem_eraseIdx hx
        · rw [if_neg e2] at hx; exact hx
    · rw [upd_ne _ _ _ _ e1] at hx
      right
      by_cases e2 : z = b
      · subst e2; rw [upd_same] at hx; exact List.mem_of_mem_eraseIdx hx
      · rw [upd_ne _ _ _ _ e2] at hx; exact hx
  refine ⟨fun z hz x hx => ?_, fun id hid => by rw [hcnt]; exact h.once id (by omega)⟩
  by_cases e1 : x = a
  · subst e1
    have hzd : z = d := by
      have h3 := h.once a hA
      rw [← hcnt] at h3
      rcases Nat.lt_trichotomy z d with h | h | h
      · have := cnt_two _ _ z d h 11 hd hx hmem; omega
      · exact h
      · have := cnt_two _ _ d z h 11 hz hmem hx; omega
    subst hzd
    refine ⟨by omega, by omega, ?_, ?_⟩
    · rw [Int.toNat_natCast, hrow, if_pos rfl, gt_set _ _ _ _ (by rw [hw a hA]; omega)]; simp
    · rw [Int.toNat_natCast, hrow, if_pos rfl, stands_set3 _ (hw a hA)]; exact hs
  · rcases hold z hz x hx with h1 | h1
    · exact absurd h1 e1
    obtain ⟨p, q, r, s⟩ := h.ok z hz x h1
    refine ⟨p, by omega, ?_, ?_⟩
    · rw [hrow, if_neg (by omega)]; exact r
    · rw [hrow, if_neg (by omega)]; exact s
/-- All numbers that are within their bounds, but for one. -/
theorem okTo_set (bs o : List Int) (n f : Nat) (x : Int) (h : okTo bs o n = true) (hf : f < o.length) (hx : inB x (gt bs (f * 2)) (gt bs (f * 2 + 1)) = true) : okTo bs (o.set f x) n = true := by
  unfold okTo at *
  rw [List.all_eq_true] at *
  intro i hi
  rw [gt_set _ _ _ _ hf]
  by_cases e : f = i
  · subst e; rw [if_pos rfl]; exact hx
  · rw [if_neg e]; exact h i hi
theorem rangesB_iff (S : St) : rangesB S = true ↔ (∀ i, i < S.objs.length → okTo (objBounds S.objs.length) (rowAt S.objs i) 18 = true) ∧ plsOK S 2 = true ∧ okTo gmBounds (numsL S.num 18 7) 7 = true := by
  unfold rangesB objsOK
  rw [Bool.and_eq_true, Bool.and_eq_true, List.all_eq_true, and_assoc]
  constructor
  · rintro ⟨a, b, c⟩; exact ⟨fun i hi => a i (List.mem_range.2 hi), b, c⟩
  · rintro ⟨a, b, c⟩; exact ⟨fun i hi => a i (List.mem_range.1 hi), b, c⟩
theorem ranges_setObj {S : St} (h : rangesB S = true) (hw : ∀ i, i < S.objs.length → (rowAt S.objs i).length = 18) (T : St) (a f : Nat) (x : Int) (ha : a < S.objs.length) (hf : f < 18) (ho : T.objs = S.objs.set a ((rowAt S.objs a).set f x)) (hn : T.num = S.num)
    (hx : inB x (gt (objBounds S.objs.length) (f * 2)) (gt (objBounds S.objs.length) (f * 2 + 1)) = true) : rangesB T = true := by
  rw [rangesB_iff] at *
  have hl : T.objs.length = S.objs.length := by rw [ho]; simp
  refine ⟨fun i hi => ?_, ?_, by rw [hn]; exact h.2.2⟩
  · rw [hl, ho, rowAt_set _ _ _ _ ha]
    by_cases e : a = i
    · rw [if_pos e]; exact okTo_set _ _ _ _ _ (h.1 a ha) (by rw [hw a ha]; exact hf) hx
    · rw [if_neg e]; exact h.1 i (by omega)
  · have := h.2.1
    unfold plsOK at *
    rw [hn]; exact this
/-- A right state stays right behind a move. -/
theorem Right.moved {S : St} (h : Right S) (hw : ∀ i, i < S.objs.length → (rowAt S.objs i).length = 18) (a b c d e : Nat) (hA : a < S.objs.length) (hb : b < 11) (hd : d < 11) (hc : c < (S.list b).length) (ha : gt (S.list b) c = a) (he : e ≤ (moveTo S b c d).length)
    (hs : standsB (rowAt S.objs a) d = true) (hf : formedB ((rowAt S.objs a).set 3 d) = true) : Right (movedS S a b c d e) := by
  have hlen : (movedS S a b c d e).objs.length = S.objs.length := by simp [movedS]
  refine ⟨by rw [hlen]; exact h.many, ranges_setObj h.ranges hw _ a 3 d hA (by omega) rfl rfl ?_, h.zon.moved hw a b c d e hA hb hd hc ha he hs, fun i hi => ?_⟩
  · have : inB (d : Int) 0 10 = true := by simp [inB]; omega
    exact this
  · show formedB (rowAt (S.objs.set a _) i) = true
    rw [rowAt_set _ _ _ _ hA]
    by_cases e : a = i
    · rw [if_pos e]; exact hf
    · rw [if_neg e]; exact h.formed i (by omega)
end Go.Proofs.YtgobdndjemicjaaGreatDoor
namespace Go.Proofs.YtgobdndjemicjaaGreatDoor
open Go Go.RowKit

@[go_sem ↓] theorem load_Event (ρ : Operand → Value) (dst : Option Tmp) (x : Operand) (ty : TypeId) (pos : String) (after : Array Edge) (guard : Option (Nat × Bool)) :
    execOp ρ { dst, op := .load 122 x, type := ty, pos, after, guard } = ldRow 122 (ρ x) := rfl
@[go_sem ↓] theorem store_Event (ρ : Operand → Value) (dst : Option Tmp) (x y : Operand) (ty : TypeId) (pos : String) (after : Array Edge) (guard : Option (Nat × Bool)) :
    execOp ρ { dst, op := .store 122 x y, type := ty, pos, after, guard } = stRow 122 (ρ x) (ρ y) := rfl
@[go_sem] theorem run_load_Event (w : World) (b o : Nat) (h : o + 6 ≤ (w.blk b).size) : (ldRow 122 (.pointer (some ⟨b, o, none⟩))).run Tryz.prog w = .ok (.value (.agg (sub (w.blk b) o 6))) w :=
  run_ldSub w b o 122 6 (by kernel_rfl) (by kernel_rfl) h (by omega)
@[go_sem] theorem run_store_Event (w : World) (b : Nat) (cs : Array Value) (h : (w.blk b).size = 6) (hc : cs.size = 6) (h1 : oneCells cs = true) (hf : w.free b = true) : (stRow 122 (.pointer (some ⟨b, 0, none⟩)) (.agg cs)).run Tryz.prog w = .ok .skip (w.setRow b cs) :=
  run_stRow w b 122 6 _ (by kernel_rfl) h hc (by omega) hf h1

@[go_sem] theorem errV_1 : errV 1 = .iface 96 (.int .i64 1) := rfl
@[go_sem] theorem errV_2 : errV 2 = .iface 96 (.int .i64 2) := rfl
@[go_sem] theorem errV_3 : errV 3 = .iface 96 (.int .i64 3) := rfl
@[go_sem] theorem errV_4 : errV 4 = .iface 96 (.int .i64 4) := rfl
@[go_sem] theorem errV_5 : errV 5 = .iface 96 (.int .i64 5) := rfl
@[go_sem] theorem errV_6 : errV 6 = .iface 96 (.int .i64 6) := rfl
@[go_sem] theorem errV_7 : errV 7 = .iface 96 (.int .i64 7) := rfl
@[go_sem] theorem errV_8 : errV 8 = .iface 96 (.int .i64 8) := rfl
@[go_sem] theorem errV_9 : errV 9 = .iface 96 (.int .i64 9) := rfl
@[go_sem] theorem errV_10 : errV 10 = .iface 96 (.int .i64 10) := rfl
@[go_sem] theorem errV_11 : errV 11 = .iface 96 (.int .i64 11) := rfl
@[go_sem] theorem errV_12 : errV 12 = .iface 96 (.int .i64 12) := rfl
@[go_sem] theorem errV_13 : errV 13 = .iface 96 (.int .i64 13) := rfl
@[go_sem] theorem errV_14 : errV 14 = .iface 96 (.int .i64 14) := rfl
@[go_sem] theorem errV_15 : errV 15 = .iface 96 (.int .i64 15) := rfl
@[go_sem] theorem errV_16 : errV 16 = .iface 96 (.int .i64 16) := rfl
@[go_sem] theorem errV_17 : errV 17 = .iface 96 (.int .i64 17) := rfl
@[go_sem] theorem errV_18 : errV 18 = .iface 96 (.int .i64 18) := rfl
@[go_sem] theorem errV_19 : errV 19 = .iface 96 (.int .i64 19) := rfl
@[go_sem] theorem errV_20 : errV 20 = .iface 96 (.int .i64 20) := rfl
@[go_sem] theorem errV_0 : errV 0 = .nilIface := rfl
theorem evin_any (n m : Int) (w : World) : Calls Tryz.prog 168 #[.int .i64 n, .int .i64 m] w fun e w' => e = .returned (.bool (inR n m)) ∧ w' = w := by
  go_enter Tryz.func168, Tryz.ntmps168
  go_wp2_with fail
  all_goals (go_ret; exact ⟨ret_bool (by (go_light; first | rfl | (simp [inR]; done) | (simp_all [inR]; done) | (simp [inR]; omega) | (simp_all [inR]; omega) | (grind [inR]))), rfl⟩)
theorem evMakes_any (e : List Int) (he : e.length = 6) (w : World) : Calls Tryz.prog 222 #[.agg (cellsOf e)] w fun x w' => x = .returned (.bool (evMakes e)) ∧ Grow w w' := by
  go_enter Tryz.func222, Tryz.ntmps222
  go_wp2_with fail
  all_goals (go_ret; exact ⟨ret_bool (by (go_light; first | rfl | (simp [evMakes]; done) | (simp_all [evMakes]; done) | (simp [evMakes]; omega) | (simp_all [evMakes]; omega) | (grind [evMakes]))), grI⟩)
set_option maxRecDepth 100000 in
theorem evSpare_any (e : List Int) (he : e.length = 6) (w : World) : Calls Tryz.prog 169 #[.agg (cellsOf e)] w fun x w' => x = .returned (.bool (evSpare e)) ∧ Grow w w' := by
  go_enter Tryz.func169, Tryz.ntmps169
  go_wp2_with (go_at_call 222; refine (evMakes_any e he _).mono ?_; rintro e' w' ⟨rfl, nx, rfl⟩)
  all_goals (go_ret; exact ⟨ret_bool (by (go_light; first | rfl | (simp [evSpare]; done) | (simp_all [evSpare]; done) | (simp [evSpare]; omega) | (simp_all [evSpare]; omega) | (grind [evSpare]))), grI⟩)
set_option maxRecDepth 100000 in
set_option maxHeartbeats 2000000 in
theorem evRanges_any (e : List Int) (he : e.length = 6) (w : World) : Calls Tryz.prog 170 #[.agg (cellsOf e)] w fun x w' => x = .returned (.bool (evRanges e)) ∧ Grow w w' := by
  go_enter Tryz.func170, Tryz.ntmps170
  go_wp2_with (go_at_call 168; refine (evin_any _ _ _).mono ?_; rintro e' w' ⟨rfl, hww⟩; subst w')
  all_goals (go_ret; exact ⟨ret_bool (by (go_light; first | rfl | (simp [evRanges, evSmall, inB]; done) | (simp_all [evRanges, evSmall, inB]; done) | (simp [evRanges, evSmall, inB]; omega) | (simp_all [evRanges, evSmall, inB]; omega) | (grind [evRanges, evSmall, inB]))), grI⟩)
set_option maxRecDepth 100000 in
set_option maxHeartbeats 2000000 in
theorem evCheck_any (e : List Int) (he : e.length = 6) (w : World) : Calls Tryz.prog 114 #[.agg (cellsOf e)] w fun x w' => x = .returned (errV (evCheck e)) ∧ Grow w w' := by
  go_enter Tryz.func114, Tryz.ntmps114
  go_wp2_with (first | (go_at_call 168; refine (evin_any _ _ _).mono ?_; rintro e' w' ⟨rfl, hww⟩; subst w') | (go_at_call 169; refine (evSpare_any e he _).mono ?_; rintro e' w' ⟨rfl, nx, rfl⟩) | (go_at_call 170; refine (evRanges_any e he _).mono ?_; rintro e' w' ⟨rfl, nx, rfl⟩))
  all_goals (go_ret; exact ⟨by (go_light; first | rfl | (simp [evCheck, errV]; done) | (simp_all [evCheck, errV]; done) | (simp [evCheck, errV]; omega) | (simp_all [evCheck, errV]; omega) | (grind [evCheck, errV])), grI⟩)
end Go.Proofs.YtgobdndjemicjaaGreatDoor
