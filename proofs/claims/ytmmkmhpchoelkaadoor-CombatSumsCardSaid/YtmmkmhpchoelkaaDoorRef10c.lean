/-
  The walk of the reference's zones.
-/
import Derived.Test.YtmmkmhpchoelkaaDoorRef10
import Derived.Test.YtmmkmhpchoelkaaDoorZon
import Derived.Deep.Light
namespace Go.Proofs.YtmmkmhpchoelkaaDoor
open Go Go.RowKit

set_option maxRecDepth 100000 in
set_option maxHeartbeats 4000000 in
theorem refZones_any (S : St) (V : SV) (w : World) (R : RepSt w V S) (hS : Small S) :
    Calls Tryd.prog 19 #[.agg (stA V S.num)] w fun e w' => e = .returned (.bool (refZonesB S)) ∧ Grow w w' := by
  have hN := R.objs.len
  have hSO := hS.objs
  have hLN := fun z hz => (R.list z hz).len
  go_enter Tryd.func19, Tryd.ntmps19
  go_wp2_with fail
  go_loopw [3] (fun i wr => ∃ z : Nat, z ≤ 11 ∧ i = .int .i64 z ∧ Hid (idsIn S z = true) ∧ Grow (w.alloc (.cells (stA V S.num) 29)) wr) (fun i _ => 11 - (intOf i).toNat)
  case atStart => exact ⟨0, by omega, rfl, rfl, (by repeat (first | exact Grow.refl _ | refine Grow.andr ?_ | refine Grow.plus ?_ _ | refine Grow.alloc ?_ _ | refine Grow.drew ?_ | refine Grow.drewN ?_ _))⟩
  case round =>
    obtain ⟨z, hz, rfl, hzo, x, rfl⟩ := hrel
    by_cases hzt : z < 11
    · have hlz := hLN z hzt
      have hsz := hS.list z hzt
      go_wp2_with fail
      rw [show decide ((z : Int) < 11) = true by simp; omega]
      go_loopw [21] (fun i wr => ∃ k : Nat, k ≤ (S.list z).length ∧ i = .int .i64 k ∧ Hid (((S.list z).take k).all (idIn S) = true) ∧ Grow (w.alloc (.cells (stA V S.num) 29)) wr) (fun i _ => (S.list z).length - (intOf i).toNat)
      case atStart => exact ⟨0, by omega, rfl, (by rw [Hid, List.take_zero]; rfl), (by repeat (first | exact Grow.refl _ | refine Grow.andr ?_ | refine Grow.plus ?_ _ | refine Grow.alloc ?_ _ | refine Grow.drew ?_ | refine Grow.drewN ?_ _))⟩
      case round =>
        obtain ⟨k, hk, rfl, hko, y, rfl⟩ := hrel
        by_cases hkt : k < (S.list z).length
        · obtain ⟨hlb, hlc⟩ := (R.list z hzt).at k hkt
          have hbadf : idIn S (gt (S.list z) k) = false → refZonesB S = false := fun h => by rw [refZonesB, idsIn_bad S z 11 k hzt hkt h]; rfl
          have hnext : idIn S (gt (S.list z) k) = true → ((S.list z).take (k + 1)).all (idIn S) = true := fun h => by rw [all_take_succ _ _ _ hkt, hko.out, h]; rfl
          have HBF := Lib.hid hbadf
          have HNX := Lib.hid hnext
          clear hbadf hnext
          generalize gt (S.list z) k = id at *
          by_cases h0 : id < 0
          · have hbad : Hid (refZonesB S = false) := HBF.out (by simp [idIn]; omega)
            go_wp2_with fail
            go_ret
            exact ⟨ret_bool hbad.out.symm, (by repeat (first | exact Grow.refl _ | refine Grow.andr ?_ | refine Grow.plus ?_ _ | refine Grow.alloc ?_ _ | refine Grow.drew ?_ | refine Grow.drewN ?_ _))⟩
          · by_cases hn : (S.objs.length : Int) ≤ id
            · have hbad : Hid (refZonesB S = false) := HBF.out (by simp [idIn]; omega)
              go_wp2_with fail
              go_ret
              exact ⟨ret_bool hbad.out.symm, (by repeat (first | exact Grow.refl _ | refine Grow.andr ?_ | refine Grow.plus ?_ _ | refine Grow.alloc ?_ _ | refine Grow.drew ?_ | refine Grow.drewN ?_ _))⟩
            · have hko2 : Hid (((S.list z).take (k + 1)).all (idIn S) = true) := HNX.out (by simp [idIn]; omega)
              go_wp2_with fail
              go_roundw
              case rel => exact ⟨k + 1, by omega, by go_num, hko2, (by repeat (first | exact Grow.refl _ | refine Grow.andr ?_ | refine Grow.plus ?_ _ | refine Grow.alloc ?_ _ | refine Grow.drew ?_ | refine Grow.drewN ?_ _))⟩
              case measure => simp [intOf]; omega
        · have hzo2 : Hid (idsIn S (z + 1) = true) := by
            have h1 := hko.out
            rw [List.take_of_length_le (by omega)] at h1
            rw [Hid, idsIn_succ, hzo.out, h1]; rfl
          go_wp2_with fail
          go_roundw
          case rel => exact ⟨z + 1, by omega, by go_num, hzo2, (by repeat (first | exact Grow.refl _ | refine Grow.andr ?_ | refine Grow.plus ?_ _ | refine Grow.alloc ?_ _ | refine Grow.drew ?_ | refine Grow.drewN ?_ _))⟩
          case measure => simp [intOf]; omega
    · have hzo2 : Hid (idsIn S 11 = true) := by rw [Hid, ← show z = 11 by omega]; exact hzo.out
      clear hzo
      go_wp2_with fail
      go_loopw [38] (fun i wr => ∃ id : Nat, id ≤ S.objs.length ∧ i = .int .i64 id ∧ Hid ((List.range id).all (refObjB S) = true) ∧ Grow (w.alloc (.cells (stA V S.num) 29)) wr) (fun i _ => S.objs.length - (intOf i).toNat)
      case atStart => exact ⟨0, by omega, rfl, rfl, (by repeat (first | exact Grow.refl _ | refine Grow.andr ?_ | refine Grow.plus ?_ _ | refine Grow.alloc ?_ _ | refine Grow.drew ?_ | refine Grow.drewN ?_ _))⟩
      case round =>
        obtain ⟨id, hid, rfl, hido, x2, rfl⟩ := hrel
        by_cases hidt : id < S.objs.length
        · obtain ⟨hob, how, hosz, hosub, hocell⟩ := R.objs.at (by omega) id hidt
          clear hocell
          have hbadf : refObjB S id = false → refZonesB S = false := fun h => by
            have : (List.range S.objs.length).all (refObjB S) = false := by
              rw [List.all_eq_false]; exact ⟨id, List.mem_range.2 hidt, by simp [h]⟩
            rw [refZonesB, this]; simp
          have hnext : refObjB S id = true → (List.range (id + 1)).all (refObjB S) = true := fun h => by
            rw [List.range_succ, List.all_append, hido.out]; simp [h]
          have HBF := Lib.hid hbadf
          have HNX := Lib.hid hnext
          have HOB : Hid (refObjB S id = (ownTo S id (rowAt S.objs id) 11 && cntTo S id 11 == 1 && stand2 (rowAt S.objs id))) := rfl
          clear hbadf hnext
          generalize rowAt S.objs id = row at *
          go_wp2_with fail
          try rw [show decide ((id : Int) < S.objs.length) = true by simp; omega]
          go_loopw [8, 9] (fun m i wr => ∃ z : Nat, z ≤ 11 ∧ i = .int .i64 z ∧ m = .int .i64 (cntTo S id z) ∧ Hid (ownTo S id row z = true) ∧ Grow (((w.alloc (.cells (stA V S.num) 29)).plus x2).alloc (.cells (cellsOf row) 48)) wr) (fun _ i _ => 11 - (intOf i).toNat)
          case atStart => exact ⟨0, by omega, rfl, rfl, rfl, (by repeat (first | exact Grow.refl _ | refine Grow.andr ?_ | refine Grow.plus ?_ _ | refine Grow.alloc ?_ _ | refine Grow.drew ?_ | refine Grow.drewN ?_ _))⟩
          case round =>
            obtain ⟨z, hz, rfl, rfl, hzo, y, rfl⟩ := hrel
            by_cases hzt : z < 11
            · have hlz := hLN z hzt
              have hsz := hS.list z hzt
              have hcl := cntTo_le S hS id z (by omega)
              go_wp2_with fail
              try rw [show decide ((z : Int) < 11) = true by simp; omega]
              go_loopw [8, 52] (fun m i wr => ∃ j : Nat, j ≤ (S.list z).length ∧ i = .int .i64 j ∧ m = .int .i64 ((cntTo S id z + ((S.list z).take j).count (id : Int) : Nat) : Int) ∧ Hid (((S.list z).take j).all (fun x => x != (id : Int) || (z : Int) == gt row 3) = true) ∧
                Grow (((w.alloc (.cells (stA V S.num) 29)).plus x2).alloc (.cells (cellsOf row) 48)) wr) (fun _ i _ => (S.list z).length - (intOf i).toNat)
              case atStart => exact ⟨0, by omega, rfl, by simp, (by rw [Hid, List.take_zero]; rfl), (by repeat (first | exact Grow.refl _ | refine Grow.andr ?_ | refine Grow.plus ?_ _ | refine Grow.alloc ?_ _ | refine Grow.drew ?_ | refine Grow.drewN ?_ _))⟩
              case round =>
                obtain ⟨j, hj, rfl, rfl, hjo, y2, rfl⟩ := hrel
                have hct : ((S.list z).take j).count (id : Int) ≤ j := by
                  have h1 : ((S.list z).take j).count (id : Int) ≤ ((S.list z).take j).length := List.count_le_length
                  rw [List.length_take] at h1; omega
                by_cases hjt : j < (S.list z).length
                · obtain ⟨hlb, hlc⟩ := (R.list z hzt).at j hjt
                  have hcs := count_take_succ (S.list z) j hjt (id : Int)
                  have hns := all_take_succ (fun x => x != (id : Int) || (z : Int) == gt row 3) (S.list z) j hjt
                  have HBO := Lib.hid (fun h h3 => ownTo_bad S id row z 11 j hzt hjt h h3)
                  have HCS := Lib.hid hcs
                  have HNS := Lib.hid hns
                  clear hcs hns
                  generalize gt (S.list z) j = u at *
                  by_cases hu : u = id
                  · by_cases h3 : (z : Int) = gt row 3
                    · have hj2 : Hid (((S.list z).take (j + 1)).all (fun x => x != (id : Int) || (z : Int) == gt row 3) = true) := by rw [Hid, HNS.out, hjo.out]; simp [h3]
                      have hc2 : Hid (((cntTo S id z + ((S.list z).take j).count (id : Int) : Nat) : Int) + 1 = ((cntTo S id z + ((S.list z).take (j + 1)).count (id : Int) : Nat) : Int)) := by
                        rw [Hid, HCS.out, if_pos hu]; omega
                      go_wp2_with fail
                      go_roundw
                      case rel => exact ⟨j + 1, by omega, by go_num, by rw [← hc2.out]; go_num, hj2, (by repeat (first | exact Grow.refl _ | refine Grow.andr ?_ | refine Grow.plus ?_ _ | refine Grow.alloc ?_ _ | refine Grow.drew ?_ | refine Grow.drewN ?_ _))⟩
                      case measure => simp [intOf]; omega
                    · have hbad : Hid (refZonesB S = false) := HBF.out (by rw [HOB.out, HBO.out hu h3]; rfl)
                      go_wp2_with fail
                      go_ret
                      exact ⟨ret_bool hbad.out.symm, (by repeat (first | exact Grow.refl _ | refine Grow.andr ?_ | refine Grow.plus ?_ _ | refine Grow.alloc ?_ _ | refine Grow.drew ?_ | refine Grow.drewN ?_ _))⟩
                  · have hj2 : Hid (((S.list z).take (j + 1)).all (fun x => x != (id : Int) || (z : Int) == gt row 3) = true) := by rw [Hid, HNS.out, hjo.out]; simp [hu]
                    have hc2 : Hid (((S.list z).take j).count (id : Int) = ((S.list z).take (j + 1)).count (id : Int)) := by rw [Hid, HCS.out, if_neg hu]; rfl
                    go_wp2_with fail
                    go_roundw
                    case rel => exact ⟨j + 1, by omega, by go_num, by rw [← hc2.out], hj2, (by repeat (first | exact Grow.refl _ | refine Grow.andr ?_ | refine Grow.plus ?_ _ | refine Grow.alloc ?_ _ | refine Grow.drew ?_ | refine Grow.drewN ?_ _))⟩
                    case measure => simp [intOf]; omega
                · have hfull : (S.list z).take j = S.list z := List.take_of_length_le (by omega)
                  have hz2 : Hid (ownTo S id row (z + 1) = true) := by
                    have h1 := hjo.out
                    rw [hfull] at h1
                    rw [Hid, ownTo_succ, hzo.out, h1]; rfl
                  have hc2 : Hid (cntTo S id z + ((S.list z).take j).count (id : Int) = cntTo S id (z + 1)) := by rw [Hid, cntTo_succ, hfull]
                  clear hfull
                  go_wp2_with fail
                  go_roundw
                  case rel => exact ⟨z + 1, by omega, by go_num, by rw [← hc2.out], hz2, (by repeat (first | exact Grow.refl _ | refine Grow.andr ?_ | refine Grow.plus ?_ _ | refine Grow.alloc ?_ _ | refine Grow.drew ?_ | refine Grow.drewN ?_ _))⟩
                  case measure => simp [intOf]; omega
            · have hz11 : Hid (ownTo S id row 11 = true) := by rw [Hid, ← show z = 11 by omega]; exact hzo.out
              have hce : cntTo S id z = cntTo S id 11 := by rw [show z = 11 by omega]
              go_wp2_with fail
              all_goals first
                | (have hbad : Hid (refZonesB S = false) := HBF.out (by rw [HOB.out, hz11.out]; go_light; simp_all [stand2]; try omega)
                   go_ret
                   exact ⟨ret_bool hbad.out.symm, (by repeat (first | exact Grow.refl _ | refine Grow.andr ?_ | refine Grow.plus ?_ _ | refine Grow.alloc ?_ _ | refine Grow.drew ?_ | refine Grow.drewN ?_ _))⟩)
                | (have hnxt : Hid ((List.range (id + 1)).all (refObjB S) = true) := HNX.out (by rw [HOB.out, hz11.out]; go_light; simp_all [stand2]; try omega)
                   go_roundw
                   case rel => exact ⟨id + 1, by omega, by go_num, hnxt, (by repeat (first | exact Grow.refl _ | refine Grow.andr ?_ | refine Grow.plus ?_ _ | refine Grow.alloc ?_ _ | refine Grow.drew ?_ | refine Grow.drewN ?_ _))⟩
                   case measure => simp [intOf]; omega)
        · have hall : Hid (refZonesB S = true) := by
            have h1 := hido.out
            rw [show id = S.objs.length by omega] at h1
            rw [Hid, refZonesB, hzo2.out, h1]; rfl
          go_wp2_with fail
          go_ret
          exact ⟨ret_bool hall.out.symm, (by repeat (first | exact Grow.refl _ | refine Grow.andr ?_ | refine Grow.plus ?_ _ | refine Grow.alloc ?_ _ | refine Grow.drew ?_ | refine Grow.drewN ?_ _))⟩
end Go.Proofs.YtmmkmhpchoelkaaDoor
