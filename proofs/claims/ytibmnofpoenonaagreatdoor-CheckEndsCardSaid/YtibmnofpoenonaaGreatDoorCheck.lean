/-
  The walk of state's formed.
  The walk of Long: a state that is larger than is looked at.
  The walk of state.Check.
-/
import Derived.Test.YtibmnofpoenonaaGreatDoorLay
import Derived.Test.YtibmnofpoenonaaGreatDoorZones
import Derived.Shelf.SlicesE.IndexFunc
import Derived.Shelf.SlicesQ.IndexFunc
import Derived.Ground.SlgfProg
import Derived.Lib.SliceRun
import Derived.Test.YtibmnofpoenonaaGreatDoorSt
namespace Go.Proofs.YtibmnofpoenonaaGreatDoor
open Go Go.RowKit Go.Shelf Go.Lib

theorem blk_cell {w : World} {b i : Nat} {c : List Int} (h : w.blk b = cellsOf c) (hi : i < c.length) : w.cell? ⟨b, i, none⟩ = some (I (gt c i)) := by
  have h1 : (w.blk b)[i]? = some (I (gt c i)) := by rw [h, cellsOf_get _ _ hi]
  unfold World.blk at h1
  cases ho : w.heap[b]? with
  | none => simp [ho] at h1
  | some o =>
    cases o <;> simp only [ho] at h1 <;> try (simp at h1; done)
    simp only [World.cell?, ho]
    exact h1

def restingL : List (Fin 18) := [4, 5, 6, 7, 8, 9, 10, 11, 12]
def encF (f : Fin 18) : Value := .int .i64 (f.val : Int)
theorem pred_formed (o : List Int) (ho : o.length = 18) (b : Nat) (w : World) (hb : b < w.heap.size) (hc : w.blk b = cellsOf o) :
    PredAt Tryz.prog 77 #[.pointer (some ⟨b, 0, none⟩)] encF (fun f => gt o f.val != 0) w := fun W f hbl => by
  have hcell : W.cell? ⟨b, f.val, none⟩ = some (I (gt o f.val)) := by
    rw [World.cell?_of_block (hbl.block b hb)]
    exact blk_cell hc (by omega)
  have hf := f.isLt
  show Calls Tryz.prog 77 #[.int .i64 (f.val : Int), .pointer (some ⟨b, 0, none⟩)] W _
  go_enter Tryz.func77, Tryz.ntmps77
  go_wp2
  all_goals (go_ret; exact ⟨rfl, 0, rfl⟩)

/-- Has an object that stands elsewhere nothing that belongs to the field? -/
def formedB (o : List Int) : Bool := !(gt o 3 != 8 && restingL.any fun f => gt o f.val != 0) && !(decide (gt o 3 < 8) && gt o 2 != gt o 1) && (gt o 3 == 9 || gt o 16 == 0)

set_option maxRecDepth 100000 in
set_option maxHeartbeats 2000000 in
theorem formed_any (o : List Int) (ho : o.length = 18) (w : World) (G : Glob w) :
    Calls Tryz.prog 54 #[.agg (cellsOf o)] w fun e w' => e = .returned (.bool (formedB o)) ∧ Grow w w' := by
  have eg : ∀ args w, (callFunc 77 args).run Tryz.prog w = .ok (.enter 77 args) w := enters_of Tryz.func77 (by kernel_rfl) rfl
  have hcon := AnyE.slices_ContainsFunc Tryz.hasInts encF (fun f => gt o f.val != 0) 77 #[.pointer (some ⟨w.heap.size, 0, none⟩)] eg 0 0 9 9 restingL (w.alloc (.cells (cellsOf o) 49))
    (pred_formed o ho _ _ (by rw [alloc_size']; omega) (by rw [blk_alloc, if_pos rfl])) (by decide) (by decide) (fun j hj => by
      have hj9 : j < 9 := hj
      rw [alloc_cell, if_neg (by have := G.size; omega), Nat.zero_add, blk_cell G.resting (by exact hj)]
      have : j = 0 ∨ j = 1 ∨ j = 2 ∨ j = 3 ∨ j = 4 ∨ j = 5 ∨ j = 6 ∨ j = 7 ∨ j = 8 := by omega
      rcases this with rfl | rfl | rfl | rfl | rfl | rfl | rfl | rfl | rfl <;> rfl)
  change Calls Tryz.prog 76 _ _ _ at hcon
  rw [show restingL.take 9 = restingL from rfl] at hcon
  have HB : Hid (formedB o = (!(gt o 3 != 8 && restingL.any fun f => gt o f.val != 0) && !(decide (gt o 3 < 8) && gt o 2 != gt o 1) && (gt o 3 == 9 || gt o 16 == 0))) := rfl
  generalize (restingL.any fun f => gt o f.val != 0) = r at hcon HB
  have HCON := Lib.hid hcon
  clear hcon
  by_cases h8 : gt o 3 = 8
  · go_enter Tryz.func54, Tryz.ntmps54
    go_wp2_with fail
    all_goals go_ret
    all_goals exact ⟨ret_bool (by rw [HB.out]; simp_all), (by repeat (first | exact Grow.refl _ | refine Grow.andr ?_ | refine Grow.plus ?_ _ | refine Grow.alloc ?_ _ | refine Grow.drew ?_ | refine Grow.drewN ?_ _))⟩
  · go_enter Tryz.func54, Tryz.ntmps54
    go_wp2_with (go_at_call 76; refine HCON.out.mono ?_; rintro e w' ⟨rfl, q, rfl⟩)
    all_goals go_ret
    all_goals exact ⟨ret_bool (by rw [HB.out]; cases r <;> simp_all <;> omega), (by repeat (first | exact Grow.refl _ | refine Grow.andr ?_ | refine Grow.plus ?_ _ | refine Grow.alloc ?_ _ | refine Grow.drew ?_ | refine Grow.drewN ?_ _))⟩
end Go.Proofs.YtibmnofpoenonaaGreatDoor
namespace Go.Proofs.YtibmnofpoenonaaGreatDoor
open Go Go.RowKit

def longTo (S : St) (most : Int) (k : Nat) : Bool := (List.range k).any fun z => decide (most + 10 < (S.list z).length)
def longB (S : St) (most : Int) : Bool := decide (most < S.objs.length) || longTo S most 11


set_option maxRecDepth 100000 in
theorem long_any (S : St) (V : SV) (most : Int) (hm : 0 ≤ most ∧ most ≤ 1000) (w : World) (R : RepSt w V S) :
    Calls Tryz.prog 8 #[.agg (stA V S.num), .int .i64 most] w fun e w' => e = .returned (.bool (longB S most)) ∧ Grow w w' := by
  have hN := R.objs.len
  have hL := fun z hz => (R.list z hz).len
  by_cases h0 : most < S.objs.length
  · go_enter Tryz.func8, Tryz.ntmps8
    go_wp2_with fail
    go_ret
    exact ⟨ret_bool (by simp [longB, h0]), (by repeat (first | exact Grow.refl _ | refine Grow.andr ?_ | refine Grow.plus ?_ _ | refine Grow.alloc ?_ _ | refine Grow.drew ?_ | refine Grow.drewN ?_ _))⟩
  go_enter Tryz.func8, Tryz.ntmps8
  go_wp2_with fail
  go_loopw [6, 14] (fun _ i wr => ∃ k : Nat, k ≤ 11 ∧ i = .int .i64 k ∧ Hid (longTo S most k = false) ∧ Grow w wr) (fun _ i _ => 11 - (intOf i).toNat)
  case atStart => exact ⟨0, by omega, rfl, rfl, (by repeat (first | exact Grow.refl _ | refine Grow.andr ?_ | refine Grow.plus ?_ _ | refine Grow.alloc ?_ _ | refine Grow.drew ?_ | refine Grow.drewN ?_ _))⟩
  case round =>
    obtain ⟨k, hk, rfl, hno, x, rfl⟩ := hrel
    by_cases hlt : k < 11
    · have hlk := hL k hlt
      by_cases hbig : most + 10 < (S.list k).length
      · go_wp2_with fail
        go_ret
        exact ⟨ret_bool (by rw [longB, Bool.or_eq_true_iff.2]; right; rw [longTo, List.any_eq_true]; exact ⟨k, List.mem_range.2 hlt, by simpa using hbig⟩), (by repeat (first | exact Grow.refl _ | refine Grow.andr ?_ | refine Grow.plus ?_ _ | refine Grow.alloc ?_ _ | refine Grow.drew ?_ | refine Grow.drewN ?_ _))⟩
      · have hs : Hid (longTo S most (k + 1) = false) := by
          have := hno.out
          rw [longTo] at this
          rw [Hid, longTo, List.range_succ, List.any_append, this]; simp; omega
        go_wp2_with fail
        go_roundw
        case rel => exact ⟨k + 1, by omega, by go_num, hs, (by repeat (first | exact Grow.refl _ | refine Grow.andr ?_ | refine Grow.plus ?_ _ | refine Grow.alloc ?_ _ | refine Grow.drew ?_ | refine Grow.drewN ?_ _))⟩
        case measure => simp [intOf]; omega
    · have hk11 : Hid (longTo S most 11 = false) := by rw [Hid, ← show k = 11 by omega]; exact hno.out
      go_wp2_with fail
      go_ret
      exact ⟨ret_bool (by rw [longB, hk11.out]; simp; omega), (by repeat (first | exact Grow.refl _ | refine Grow.andr ?_ | refine Grow.plus ?_ _ | refine Grow.alloc ?_ _ | refine Grow.drew ?_ | refine Grow.drewN ?_ _))⟩
end Go.Proofs.YtibmnofpoenonaaGreatDoor
namespace Go.Proofs.YtibmnofpoenonaaGreatDoor
open Go Go.RowKit Go.Shelf Go.Lib

theorem Glob.below {w W : World} (h : Glob w) (hb : Below w.heap.size w W) : Glob W := h.grow (Grow.of_below hb)

structure Row18 where
  l : List Int
  h : l.length = 18
instance : Inhabited Row18 := ⟨⟨List.replicate 18 0, rfl⟩⟩
def mk18 (l : List Int) : Row18 := if h : l.length = 18 then ⟨l, h⟩ else default
theorem mk18_l {l : List Int} (h : l.length = 18) : (mk18 l).l = l := by rw [mk18, dif_pos h]
def enc18 (r : Row18) : List Value := r.l.map I

theorem pred_check (w : World) (G : Glob w) : PredBelow Tryz.prog 53 #[] (fun r => .agg (enc18 r).toArray) (fun r => !formedB r.l) w := fun W r hb => by
  have GW := Lib.hid (G.below hb)
  have hl := r.h
  show Calls Tryz.prog 53 #[.agg (cellsOf r.l)] W _
  have key : Calls Tryz.prog 53 #[.agg (cellsOf r.l)] W fun e w' => e = .returned (.bool (!formedB r.l)) ∧ Grow W w' := by
    go_enter Tryz.func53, Tryz.ntmps53
    go_wp2_with (go_at_call 54; refine (formed_any _ hl _ (GW.out.grow (by repeat (first | exact Grow.refl _ | refine Grow.andr ?_ | refine Grow.plus ?_ _ | refine Grow.alloc ?_ _ | refine Grow.drew ?_ | refine Grow.drewN ?_ _)))).mono ?_; rintro e w' ⟨rfl, nx, rfl⟩)
    go_ret
    exact ⟨rfl, (by repeat (first | exact Grow.refl _ | refine Grow.andr ?_ | refine Grow.plus ?_ _ | refine Grow.alloc ?_ _ | refine Grow.drew ?_ | refine Grow.drewN ?_ _))⟩
  refine key.mono ?_
  rintro e w' ⟨he, hg⟩
  exact ⟨he, hb.trans (hg.below.mono hb.size)⟩

def noForm (S : St) : Bool := S.objs.any fun o => !formedB o
def checkN (S : St) : Int := if 400 < S.objs.length then 5 else if rangesB S = false then 1 else if zonesB S = false then 12 else if noForm S = true then 2 else 0
def errV (n : Int) : Value := if n = 0 then .nilIface else .iface 62 (.int .i64 n)

theorem rowAt_mem {l : List (List Int)} {r : List Int} (h : r ∈ l) : ∃ i, i < l.length ∧ rowAt l i = r := by
  obtain ⟨i, hi, rfl⟩ := List.mem_iff_getElem.1 h
  exact ⟨i, hi, by simp [rowAt, hi]⟩

theorem idxObjs_empty (s : Sl) (hn : s.n = 0) (fv : Value) (w : World) :
    Calls Tryz.prog 75 #[s.val, fv] w fun e w' => e = .returned (.int .i64 (-1)) ∧ Grow w w' := by
  go_enter Tryz.func75, Tryz.ntmps75
  go_wp2_with fail
  go_loopw [8] (fun i wr => i = .int .i64 0 ∧ Grow w wr) (fun _ _ => 0)
  case atStart => exact ⟨rfl, (by repeat (first | exact Grow.refl _ | refine Grow.andr ?_ | refine Grow.plus ?_ _ | refine Grow.alloc ?_ _ | refine Grow.drew ?_ | refine Grow.drewN ?_ _))⟩
  case round =>
    obtain ⟨rfl, x, rfl⟩ := hrel
    go_wp2_with fail
    go_ret
    exact ⟨rfl, (by repeat (first | exact Grow.refl _ | refine Grow.andr ?_ | refine Grow.plus ?_ _ | refine Grow.alloc ?_ _ | refine Grow.drew ?_ | refine Grow.drewN ?_ _))⟩
theorem hasObjs_empty (s : Sl) (hn : s.n = 0) (fv : Value) (w : World) :
    Calls Tryz.prog 52 #[s.val, fv] w fun e w' => e = .returned (.bool false) ∧ Grow w w' := by
  go_enter Tryz.func52, Tryz.ntmps52
  go_wp2_with (go_at_call 75; refine (idxObjs_empty _ hn _ _).mono ?_; rintro e w' ⟨rfl, nx, rfl⟩)
  go_ret
  exact ⟨rfl, (by repeat (first | exact Grow.refl _ | refine Grow.andr ?_ | refine Grow.plus ?_ _ | refine Grow.alloc ?_ _ | refine Grow.drew ?_ | refine Grow.drewN ?_ _))⟩

theorem hasForm_any (S : St) (V : SV) (w : World) (R : RepSt w V S) (hS : Small S) (G : Glob w) :
    Calls Tryz.prog 52 #[V.objs.val, .func (.func 53) #[] #[]] w fun e w' => e = .returned (.bool (noForm S)) ∧ Grow w w' := by
  have eg : ∀ args w, (callFunc 53 args).run Tryz.prog w = .ok (.enter 53 args) w := enters_of Tryz.func53 (by kernel_rfl) rfl
  have hz : (S.objs.map mk18).any (fun r => !formedB r.l) = noForm S := by
    rw [List.any_map, noForm]
    rw [Bool.eq_iff_iff, List.any_eq_true, List.any_eq_true]
    refine exists_congr fun o => and_congr_right fun ho => ?_
    obtain ⟨i, hi, rfl⟩ := rowAt_mem ho
    rw [Function.comp, mk18_l (R.objs.wid i hi)]
  by_cases hn : S.objs.length = 0
  · refine (hasObjs_empty V.objs (by rw [R.objs.len]; exact hn) _ w).mono ?_
    rintro e w' ⟨he, hg⟩
    exact ⟨by rw [he, noForm, List.eq_nil_of_length_eq_zero hn]; rfl, hg⟩
  · have hs := V.objs.mk_of (by rw [R.objs.len]; omega)
    rw [hs]
    have hcon := AnyQ.slices_ContainsFunc Tryz.hasObjs 18 (fun w => by kernel_rfl) (fun w => by kernel_rfl) enc18 (fun r => by rw [enc18, List.length_map, r.h]) (fun r => !formedB r.l) 53 #[] eg V.objs.b V.objs.o V.objs.n V.objs.c (S.objs.map mk18) w (pred_check w G)
      (by rw [List.length_map, R.objs.len]; omega) (by rw [R.objs.len]; have := hS.objs; omega) (R.objs.at (by omega) 0 (by omega)).1 (fun j hj i v hv => by
        rw [List.length_map] at hj
        have hj' : j < (S.objs.map mk18).length := by rw [List.length_map]; exact hj
        rw [getElem!_pos (S.objs.map mk18) j hj', List.getElem_map, enc18] at hv
        have e : S.objs[j] = rowAt S.objs j := by simp [rowAt, hj]
        rw [e, mk18_l (R.objs.wid j hj)] at hv
        have hi : i < 18 := by
          have := (List.getElem?_eq_some_iff.1 hv).1
          rw [List.length_map, R.objs.wid j hj] at this; exact this
        rw [R.objs.cell j i hj hi, ← hv, List.getElem?_map, List.getElem?_eq_getElem (by rw [R.objs.wid j hj]; exact hi)]
        simp [gt, R.objs.wid j hj, hi])
    refine hcon.mono ?_
    rintro e w' ⟨he, hb⟩
    refine ⟨?_, Grow.of_below hb⟩
    rw [he, List.take_of_length_le (by rw [List.length_map, R.objs.len]; omega), hz]

set_option maxRecDepth 100000 in
set_option maxHeartbeats 2000000 in
theorem check_any (S : St) (V : SV) (w : World) (R : RepSt w V S) (hS : Small S) (G : Glob w) :
    Calls Tryz.prog 30 #[.agg (stA V S.num)] w fun e w' => e = .returned (errV (checkN S)) ∧ Grow w w' := by
  have hN := R.objs.len
  have hSO := hS.objs
  have HR := Lib.hid R
  have HG := Lib.hid G
  have HS := Lib.hid hS
  clear R G hS
  by_cases h400 : 400 < S.objs.length
  · have hv : Hid (errV (checkN S) = .iface 62 (.int .i64 5)) := by rw [Hid, checkN, if_pos h400]; rfl
    go_enter Tryz.func30, Tryz.ntmps30
    go_wp2_with fail
    go_ret
    exact ⟨by rw [hv.out]; rfl, (by repeat (first | exact Grow.refl _ | refine Grow.andr ?_ | refine Grow.plus ?_ _ | refine Grow.alloc ?_ _ | refine Grow.drew ?_ | refine Grow.drewN ?_ _))⟩
  · have HV : Hid (errV (checkN S) = if rangesB S = false then .iface 62 (.int .i64 1) else if zonesB S = false then .iface 62 (.int .i64 12) else if noForm S = true then .iface 62 (.int .i64 2) else .nilIface) := by
      rw [Hid, checkN, if_neg h400]
      (repeat' split) <;> rfl
    go_enter Tryz.func30, Tryz.ntmps30
    go_wp2_with (first | (go_at_call 50; refine (ranges_any S V _ (HR.out.grow (by repeat (first | exact Grow.refl _ | refine Grow.andr ?_ | refine Grow.plus ?_ _ | refine Grow.alloc ?_ _ | refine Grow.drew ?_ | refine Grow.drewN ?_ _))) HS.out (HG.out.grow (by repeat (first | exact Grow.refl _ | refine Grow.andr ?_ | refine Grow.plus ?_ _ | refine Grow.alloc ?_ _ | refine Grow.drew ?_ | refine Grow.drewN ?_ _)))).mono ?_; rintro e w' ⟨rfl, nx, rfl⟩) | (go_at_call 51; refine (zones_any S V _ (HR.out.grow (by repeat (first | exact Grow.refl _ | refine Grow.andr ?_ | refine Grow.plus ?_ _ | refine Grow.alloc ?_ _ | refine Grow.drew ?_ | refine Grow.drewN ?_ _))) HS.out).mono ?_; rintro e w' ⟨rfl, nx, rfl⟩) | (go_at_call 52; refine (hasForm_any S V _ (HR.out.grow (by repeat (first | exact Grow.refl _ | refine Grow.andr ?_ | refine Grow.plus ?_ _ | refine Grow.alloc ?_ _ | refine Grow.drew ?_ | refine Grow.drewN ?_ _))) HS.out (HG.out.grow (by repeat (first | exact Grow.refl _ | refine Grow.andr ?_ | refine Grow.plus ?_ _ | refine Grow.alloc ?_ _ | refine Grow.drew ?_ | refine Grow.drewN ?_ _)))).mono ?_; rintro e w' ⟨rfl, nx, rfl⟩))
    all_goals go_ret
    all_goals exact ⟨by rw [HV.out]; simp_all, (by repeat (first | exact Grow.refl _ | refine Grow.andr ?_ | refine Grow.plus ?_ _ | refine Grow.alloc ?_ _ | refine Grow.drew ?_ | refine Grow.drewN ?_ _))⟩
end Go.Proofs.YtibmnofpoenonaaGreatDoor
