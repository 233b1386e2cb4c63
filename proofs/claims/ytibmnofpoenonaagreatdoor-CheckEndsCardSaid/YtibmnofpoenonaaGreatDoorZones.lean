/-
  The walks of Side, stands, zones.
  The walk of zones.
-/
import Derived.Test.YtibmnofpoenonaaGreatDoorRanges
namespace Go.Proofs.YtibmnofpoenonaaGreatDoor
open Go Go.RowKit

def ownedB (z : Int) : Bool := decide (0 ≤ z) && decide (z < 8)
def sideBase (z : Int) : Int := if ownedB z then z - z % 2 else if z < 0 ∨ 11 ≤ z then 0 else z
def sidePl (z : Int) : Int := if ownedB z then z % 2 else 0

theorem ret_tuple {a b : Array Value} (h : a = b) : Ending.returned (.tuple a) = .returned (.tuple b) := by rw [h]
theorem side_any (z : Int) (w : World) :
    Calls Tryz.prog 102 #[.int .i64 z] w fun e w' => e = .returned (.tuple #[.int .i64 (sideBase z), .int .i64 (sidePl z), .bool (ownedB z)]) ∧ w' = w := by
  by_cases h0 : z < 0
  · have e1 : Hid (sideBase z = 0 ∧ sidePl z = 0 ∧ ownedB z = false) := by
      have : ownedB z = false := by simp [ownedB]; omega
      refine ⟨by rw [sideBase, this, if_neg (by simp), if_pos (by omega)], by rw [sidePl, this]; rfl, this⟩
    go_enter Tryz.func102, Tryz.ntmps102
    go_wp2_with fail
    go_ret3
    exact ⟨by rw [e1.out.1, e1.out.2.1, e1.out.2.2]; rfl, rfl⟩
  · by_cases h8 : z < 8
    · have : z = 0 ∨ z = 1 ∨ z = 2 ∨ z = 3 ∨ z = 4 ∨ z = 5 ∨ z = 6 ∨ z = 7 := by omega
      rcases this with rfl | rfl | rfl | rfl | rfl | rfl | rfl | rfl
      all_goals
        go_enter Tryz.func102, Tryz.ntmps102
        go_wp2_with fail
        go_ret3
        exact ⟨rfl, rfl⟩
    · have ho : ownedB z = false := by simp [ownedB]; omega
      have e2 : Hid (sidePl z = 0 ∧ ownedB z = false) := ⟨by rw [sidePl, ho]; rfl, ho⟩
      by_cases h11 : 11 ≤ z
      · have e1 : Hid (sideBase z = 0) := by rw [Hid, sideBase, ho, if_neg (by simp), if_pos (by omega)]
        clear ho
        go_enter Tryz.func102, Tryz.ntmps102
        go_wp2_with fail
        go_ret3
        exact ⟨by rw [e1.out, e2.out.1, e2.out.2]; rfl, rfl⟩
      · have e1 : Hid (sideBase z = z) := by rw [Hid, sideBase, ho, if_neg (by simp), if_neg (by omega)]
        clear ho
        go_enter Tryz.func102, Tryz.ntmps102
        go_wp2_with fail
        go_ret3
        exact ⟨by rw [e1.out, e2.out.1, e2.out.2]; rfl, rfl⟩

def standsB (o : List Int) (z : Int) : Bool := if ownedB z then (gt o 1 == sidePl z) && (gt o 13 == 0) else if z = 8 then gt o 13 != 2 else true

set_option maxRecDepth 100000 in
theorem stands_any (o : List Int) (z : Int) (ho : o.length = 18) (w : World) :
    Calls Tryz.prog 74 #[.agg (cellsOf o), .int .i64 z] w fun e w' => e = .returned (.bool (standsB o z)) ∧ Grow w w' := by
  by_cases hz : ownedB z = true
  · have hb : Hid (standsB o z = ((gt o 1 == sidePl z) && (gt o 13 == 0))) := by rw [Hid, standsB, if_pos hz]
    by_cases h1 : gt o 1 = sidePl z
    · go_enter Tryz.func74, Tryz.ntmps74
      go_wp2_with (go_at_call 102; refine (side_any _ _).mono ?_; rintro e w' ⟨rfl, rfl⟩)
      go_ret
      exact ⟨ret_bool (by rw [hb.out]; simp [h1]), (by repeat (first | exact Grow.refl _ | refine Grow.andr ?_ | refine Grow.plus ?_ _ | refine Grow.alloc ?_ _ | refine Grow.drew ?_ | refine Grow.drewN ?_ _))⟩
    · go_enter Tryz.func74, Tryz.ntmps74
      go_wp2_with (go_at_call 102; refine (side_any _ _).mono ?_; rintro e w' ⟨rfl, rfl⟩)
      go_ret
      exact ⟨ret_bool (by rw [hb.out]; simp [h1]), (by repeat (first | exact Grow.refl _ | refine Grow.andr ?_ | refine Grow.plus ?_ _ | refine Grow.alloc ?_ _ | refine Grow.drew ?_ | refine Grow.drewN ?_ _))⟩
  · have hz' : ownedB z = false := by simpa using hz
    have hb : Hid (standsB o z = if z = 8 then gt o 13 != 2 else true) := by rw [Hid, standsB, if_neg (by simp [hz'])]
    clear hz
    by_cases h8 : z = 8
    · go_enter Tryz.func74, Tryz.ntmps74
      go_wp2_with (go_at_call 102; refine (side_any _ _).mono ?_; rintro e w' ⟨rfl, rfl⟩)
      go_ret
      exact ⟨ret_bool (by have h := hb.out; rw [if_pos h8] at h; rw [h]), (by repeat (first | exact Grow.refl _ | refine Grow.andr ?_ | refine Grow.plus ?_ _ | refine Grow.alloc ?_ _ | refine Grow.drew ?_ | refine Grow.drewN ?_ _))⟩
    · go_enter Tryz.func74, Tryz.ntmps74
      go_wp2_with (go_at_call 102; refine (side_any _ _).mono ?_; rintro e w' ⟨rfl, rfl⟩)
      go_ret
      exact ⟨ret_bool (by have h := hb.out; rw [if_neg h8] at h; rw [h]), (by repeat (first | exact Grow.refl _ | refine Grow.andr ?_ | refine Grow.plus ?_ _ | refine Grow.alloc ?_ _ | refine Grow.drew ?_ | refine Grow.drewN ?_ _))⟩
end Go.Proofs.YtibmnofpoenonaaGreatDoor
namespace Go.Proofs.YtibmnofpoenonaaGreatDoor
open Go Go.RowKit

/-- The cells of a row of truths. -/
def cellsB (l : List Bool) : Array Value := (l.map Value.bool).toArray
def gtb (l : List Bool) (i : Nat) : Bool := l.getD i false
@[go_sem] theorem cellsB_size (l : List Bool) : (cellsB l).size = l.length := by simp [cellsB]
@[go_sem] theorem cellsB_get (l : List Bool) (i : Nat) (h : i < l.length) : (cellsB l)[i]? = some (.bool (gtb l i)) := by simp [cellsB, gtb, h]
@[go_sem] theorem cellsB_getElem (l : List Bool) (i : Nat) (h : i < (cellsB l).size) : (cellsB l)[i]'h = .bool (gtb l i) := by
  have h' : i < l.length := by simpa [cellsB] using h
  simp [cellsB, gtb, h']
@[go_sem] theorem cellsB_set (l : List Bool) (i : Nat) (x : Bool) : (cellsB l).setIfInBounds i (.bool x) = cellsB (l.set i x) := by simp [cellsB, List.map_set]
@[go_sem] theorem make_bools (w : World) (l c : Int) (h0 : 0 ≤ l) (hlc : l = c) (h1 : c ≤ 1099511627776) : (Instr.makeSlice 121 (.int .i64 l) (.int .i64 c)).run Tryz.prog w = .ok (.slice (some ⟨w.heap.size, 0, none⟩) c.toNat c.toNat) (w.alloc (.cells (cellsB (List.replicate c.toNat false)) 4)) := by
  subst hlc
  have hb : (Tryz.t4.bytes : Int) * l ≤ 281474976710656 := by
    rw [show (Tryz.t4.bytes : Int) = 1 by kernel_rfl]; omega
  have h := run_make (P := Tryz.prog) w 121 4 Tryz.t4 (.bool false) Tryz.underlying121 (by kernel_rfl) (by kernel_rfl) .i64 .i64 l l h0 (Int.le_refl _) hb (by omega)
  have hz : madeCells #[.bool false] l.toNat = cellsB (List.replicate l.toNat false) := by
    apply Array.ext'
    rw [toList_madeCells_one]
    simp [cellsB]
  rw [h, show Tryz.t4.size = 1 by kernel_rfl, Nat.mul_one]
  simp only [Value.cells, hz]

/-- One number of the list z is looked at. -/
def zstep (S : St) (z : Nat) (p : List Bool × Nat) (id : Int) : Option (List Bool × Nat) :=
  if id < 0 ∨ (S.objs.length : Int) ≤ id then none
  else if gtb p.1 id.toNat = true then none
  else if ¬ gt (rowAt S.objs id.toNat) 3 = z then none
  else if standsB (rowAt S.objs id.toNat) z = false then none
  else some (p.1.set id.toNat true, p.2 + 1)
def zlist (S : St) (z : Nat) (p : List Bool × Nat) (l : List Int) : Option (List Bool × Nat) := l.foldlM (zstep S z) p
def zTo (S : St) (k : Nat) : Option (List Bool × Nat) := (List.range k).foldlM (fun p z => zlist S z p (S.list z)) (List.replicate S.objs.length false, 0)
/-- Are the lists as they must be? -/
def zonesB (S : St) : Bool := match zTo S 11 with
  | none => false
  | some p => (p.2 : Int) == S.objs.length
theorem take_snoc (c : List Int) (k : Nat) (h : k < c.length) : c.take (k + 1) = c.take k ++ [gt c k] := by
  rw [List.take_add_one, List.getElem?_eq_getElem h]; simp [gt, h]
theorem zlist_succ {S : St} {z : Nat} {p0 p : List Bool × Nat} {l : List Int} {k : Nat} (hk : k < l.length) (h : zlist S z p0 (l.take k) = some p) : zlist S z p0 (l.take (k + 1)) = zstep S z p (gt l k) := by
  unfold zlist at *
  rw [take_snoc l k hk, List.foldlM_append, h]
  simp
theorem zlist_none {S : St} {z : Nat} {p0 : List Bool × Nat} {l : List Int} {k : Nat} (h : zlist S z p0 (l.take k) = none) : zlist S z p0 l = none := by
  unfold zlist at *
  rw [← List.take_append_drop k l, List.foldlM_append, h]
  rfl
theorem zTo_succ {S : St} {k : Nat} {p : List Bool × Nat} (h : zTo S k = some p) : zTo S (k + 1) = zlist S k p (S.list k) := by
  unfold zTo at *
  rw [List.range_succ, List.foldlM_append, h]
  simp
theorem zTo_none {S : St} {k n : Nat} (hk : k ≤ n) (h : zTo S k = none) : zTo S n = none := by
  induction n with
  | zero => rw [show k = 0 by omega] at h; exact h
  | succ n ih =>
    by_cases e : k = n + 1
    · subst e; exact h
    · have := ih (by omega)
      unfold zTo at *
      rw [List.range_succ, List.foldlM_append, this]; rfl

set_option maxRecDepth 100000 in
set_option maxHeartbeats 4000000 in
theorem zones_any (S : St) (V : SV) (w : World) (R : RepSt w V S) (hS : Small S) :
    Calls Tryz.prog 51 #[.agg (stA V S.num)] w fun e w' => e = .returned (.bool (zonesB S)) ∧ Grow w w' := by
  have hN := R.objs.len
  have hSO := hS.objs
  have hLN := fun z hz => (R.list z hz).len
  have hm0 : 0 ≤ (S.objs.length : Int) := by omega
  have hm1 : (S.objs.length : Int) ≤ 1099511627776 := by omega
  go_enter Tryz.func51, Tryz.ntmps51
  go_wp2_with fail
  go_loopw [4, 16] (fun m i wr => ∃ (z : Nat) (p : List Bool × Nat) (x : Ext), z ≤ 11 ∧ i = .int .i64 z ∧ m = .int .i64 p.2 ∧ Hid (zTo S z = some p) ∧ p.1.length = S.objs.length ∧ p.2 ≤ z * 1048576 ∧
    wr = ((w.alloc (.cells (stA V S.num) 29)).alloc (.cells (cellsB p.1) 4)).plus x) (fun _ i _ => 11 - (intOf i).toNat)
  case atStart => exact ⟨0, (List.replicate S.objs.length false, 0), Ext.none, by omega, rfl, rfl, rfl, by simp, by omega, by rw [plus_none]⟩
  case round =>
    obtain ⟨z, p, x, hz, rfl, rfl, hto, hpl, hpm, rfl⟩ := hrel
    by_cases hzt : z < 11
    · have hlz := hLN z hzt
      have hsz := hS.list z hzt
      go_wp2_with fail
      rw [show decide ((z : Int) < 11) = true by simp; omega]
      go_loopw [4, 22] (fun m i wr => ∃ (k : Nat) (q : List Bool × Nat) (y : Ext), k ≤ (S.list z).length ∧ i = .int .i64 k ∧ m = .int .i64 q.2 ∧ Hid (zlist S z p ((S.list z).take k) = some q) ∧ q.1.length = S.objs.length ∧ q.2 ≤ z * 1048576 + k ∧
        wr = ((w.alloc (.cells (stA V S.num) 29)).alloc (.cells (cellsB q.1) 4)).plus y) (fun _ i _ => (S.list z).length - (intOf i).toNat)
      case atStart => exact ⟨0, p, x, Nat.zero_le _, rfl, rfl, (by rw [Hid, List.take_zero]; rfl), hpl, Nat.le_trans hpm (Nat.le_add_right _ _), rfl⟩
      case round =>
        obtain ⟨k, q, y, hk, rfl, rfl, hzl, hql, hqm, rfl⟩ := hrel
        by_cases hkt : k < (S.list z).length
        · obtain ⟨hlb, hlc⟩ := (R.list z hzt).at k hkt
          have hst := zlist_succ hkt hzl.out
          have HST := Lib.hid hst
          have hnone : zstep S z q (gt (S.list z) k) = none → zonesB S = false := fun h => by
            have h1 := zlist_none (hst.trans h)
            have h2 := zTo_succ hto.out
            have h3 := zTo_none (n := 11) (by omega) (h2.trans h1)
            rw [zonesB, h3]
          have HNO := Lib.hid hnone
          clear hst hnone
          generalize hid : gt (S.list z) k = id at *
          have HID := Lib.hid hid
          clear hid
          by_cases h0 : id < 0
          · have hbad : Hid (zonesB S = false) := HNO.out (by rw [zstep, if_pos (by omega)])
            go_wp2_with fail
            go_ret
            exact ⟨ret_bool hbad.out.symm, (by repeat (first | exact Grow.refl _ | refine Grow.andr ?_ | refine Grow.plus ?_ _ | refine Grow.alloc ?_ _ | refine Grow.drew ?_ | refine Grow.drewN ?_ _))⟩
          · by_cases hn : (S.objs.length : Int) ≤ id
            · have hbad : Hid (zonesB S = false) := HNO.out (by rw [zstep, if_pos (by omega)])
              go_wp2_with fail
              go_ret
              exact ⟨ret_bool hbad.out.symm, (by repeat (first | exact Grow.refl _ | refine Grow.andr ?_ | refine Grow.plus ?_ _ | refine Grow.alloc ?_ _ | refine Grow.drew ?_ | refine Grow.drewN ?_ _))⟩
            · obtain ⟨d, rfl⟩ := Int.eq_ofNat_of_zero_le (show 0 ≤ id by omega)
              have hd : d < S.objs.length := by omega
              by_cases hseen : gtb q.1 d = true
              · have hbad : Hid (zonesB S = false) := HNO.out (by rw [zstep, if_neg (by omega), if_pos (by simpa using hseen)])
                go_wp2_with fail
                go_ret
                exact ⟨ret_bool hbad.out.symm, (by repeat (first | exact Grow.refl _ | refine Grow.andr ?_ | refine Grow.plus ?_ _ | refine Grow.alloc ?_ _ | refine Grow.drew ?_ | refine Grow.drewN ?_ _))⟩
              · have hseen' : gtb q.1 d = false := by simpa using hseen
                clear hseen
                obtain ⟨hob, how, hosz, hosub, hocell⟩ := R.objs.at (by omega) d hd
                clear hocell
                generalize hrow : rowAt S.objs d = row at *
                have HROW := Lib.hid hrow
                clear hrow
                by_cases hzo : gt row 3 = z
                · by_cases hstd : standsB row z = true
                  · have hnew : Hid (zlist S z p ((S.list z).take (k + 1)) = some (q.1.set d true, q.2 + 1)) := by
                      rw [Hid, HST.out, zstep, if_neg (by omega), if_neg (by rw [Int.toNat_natCast]; simp [hseen']), Int.toNat_natCast, HROW.out, if_neg (by simp [hzo]), if_neg (by simp [hstd])]
                    go_wp2_with (go_at_call 74; refine (stands_any _ _ how _).mono ?_; rintro e w' ⟨rfl, nx, rfl⟩)
                    go_roundw
                    case rel => exact ⟨k + 1, (q.1.set d true, q.2 + 1), _, by omega, by go_num, by go_num, hnew, by simp [hql], by omega, by rw [plus_alloc, plus_plus]⟩
                    case measure => simp [intOf]; omega
                  · have hstd' : standsB row z = false := by simpa using hstd
                    have hbad : Hid (zonesB S = false) := HNO.out (by
                      rw [zstep, if_neg (by omega), if_neg (by rw [Int.toNat_natCast]; simp [hseen']), Int.toNat_natCast, HROW.out, if_neg (by simp [hzo]), if_pos hstd'])
                    clear hstd
                    go_wp2_with (go_at_call 74; refine (stands_any _ _ how _).mono ?_; rintro e w' ⟨rfl, nx, rfl⟩)
                    go_ret
                    exact ⟨ret_bool hbad.out.symm, (by repeat (first | exact Grow.refl _ | refine Grow.andr ?_ | refine Grow.plus ?_ _ | refine Grow.alloc ?_ _ | refine Grow.drew ?_ | refine Grow.drewN ?_ _))⟩
                · have hbad : Hid (zonesB S = false) := HNO.out (by
                    rw [zstep, if_neg (by omega), if_neg (by rw [Int.toNat_natCast]; simp [hseen']), Int.toNat_natCast, HROW.out, if_pos hzo])
                  go_wp2_with fail
                  go_ret
                  exact ⟨ret_bool hbad.out.symm, (by repeat (first | exact Grow.refl _ | refine Grow.andr ?_ | refine Grow.plus ?_ _ | refine Grow.alloc ?_ _ | refine Grow.drew ?_ | refine Grow.drewN ?_ _))⟩
        · have hzn : Hid (zTo S (z + 1) = some q) := by
            have h1 := hzl.out
            rw [List.take_of_length_le (by omega)] at h1
            rw [Hid, zTo_succ hto.out, h1]
          go_wp2_with fail
          go_roundw
          case rel => exact ⟨z + 1, q, _, by omega, by go_num, rfl, hzn, hql, by omega, rfl⟩
          case measure => simp [intOf]; omega
    · have hz2 : Hid (zonesB S = ((p.2 : Int) == S.objs.length)) := by rw [Hid, zonesB, ← show z = 11 by omega, hto.out]
      go_wp2_with fail
      go_ret
      exact ⟨ret_bool hz2.out.symm, (by repeat (first | exact Grow.refl _ | refine Grow.andr ?_ | refine Grow.plus ?_ _ | refine Grow.alloc ?_ _ | refine Grow.drew ?_ | refine Grow.drewN ?_ _))⟩
end Go.Proofs.YtibmnofpoenonaaGreatDoor
