/-
  The walks of the reference's Check of a state.
  The walk of the reference's ranges.
-/
import Derived.Test.YtmmkmhpchoelkaaDoorCheck
namespace Go.Proofs.YtmmkmhpchoelkaaDoor
open Go Go.RowKit

theorem in_any (x a b : Int) (w : World) : Calls Tryd.prog 45 #[.int .i64 x, .int .i64 a, .int .i64 b] w fun e w' => e = .returned (.bool (inB x a b)) ∧ w' = w := by
  by_cases hax : a ≤ x
  · go_enter Tryd.func45, Tryd.ntmps45
    go_wp2_with fail
    go_ret
    exact ⟨ret_bool (by simp [inB, hax]), rfl⟩
  · go_enter Tryd.func45, Tryd.ntmps45
    go_wp2_with fail
    go_ret
    exact ⟨ret_bool (by simp [inB]; omega), rfl⟩

set_option maxRecDepth 100000 in
set_option maxHeartbeats 4000000 in
theorem object_any (o : List Int) (n : Int) (ho : o.length = 18) (w : World) :
    Calls Tryd.prog 44 #[.agg (cellsOf o), .int .i64 n] w fun e w' => e = .returned (.bool (okTo (objBounds n) o 18)) ∧ Grow w w' := by
  go_enter Tryd.func44, Tryd.ntmps44
  go_wp2_with (go_at_call 45; refine (in_any _ _ _ _).mono ?_; rintro e w' ⟨rfl, rfl⟩)
  all_goals go_ret
  all_goals exact ⟨ret_bool (by simp_all [okTo, List.range_succ, objBounds, gt]), (by repeat (first | exact Grow.refl _ | refine Grow.andr ?_ | refine Grow.plus ?_ _ | refine Grow.alloc ?_ _ | refine Grow.drew ?_ | refine Grow.drewN ?_ _))⟩

theorem formedB_eq (o : List Int) : formedB o = (!(gt o 3 != 8 && (gt o 4 != 0 || (gt o 5 != 0 || (gt o 6 != 0 || (gt o 7 != 0 || (gt o 8 != 0 || (gt o 9 != 0 || (gt o 10 != 0 || (gt o 11 != 0 || (gt o 12 != 0 || false)))))))))) && !(decide (gt o 3 < 8) && gt o 2 != gt o 1) && (gt o 3 == 9 || gt o 16 == 0)) := rfl
set_option maxRecDepth 100000 in
set_option maxHeartbeats 4000000 in
theorem refFormed_any (o : List Int) (ho : o.length = 18) (w : World) :
    Calls Tryd.prog 20 #[.agg (cellsOf o)] w fun e w' => e = .returned (.bool (formedB o)) ∧ Grow w w' := by
  go_enter Tryd.func20, Tryd.ntmps20
  go_wp2_with fail
  all_goals go_ret
  all_goals exact ⟨ret_bool (by simp_all [formedB_eq]; try omega), (by repeat (first | exact Grow.refl _ | refine Grow.andr ?_ | refine Grow.plus ?_ _ | refine Grow.alloc ?_ _ | refine Grow.drew ?_ | refine Grow.drewN ?_ _))⟩
end Go.Proofs.YtmmkmhpchoelkaaDoor
namespace Go.Proofs.YtmmkmhpchoelkaaDoor
open Go Go.RowKit

theorem okTo_players (p : List Int) : okTo plBounds p 9 = (inB (gt p 0) (-1073741824) 1073741824 && inB (gt p 1) 0 1000 && inB (gt p 2) 0 1000 && inB (gt p 3) 0 1000 && inB (gt p 4) 0 1000 && inB (gt p 5) 0 1000 && inB (gt p 6) 0 1000 && inB (gt p 7) 0 1 && inB (gt p 8) 0 1) := by
  simp [okTo, List.range_succ, plBounds, gt, Bool.and_assoc]
theorem okTo_game (p : List Int) : okTo gmBounds p 7 = (inB (gt p 0) 0 1073741824 && inB (gt p 1) 0 1 && inB (gt p 2) 0 7 && inB (gt p 3) 0 1 && inB (gt p 4) 0 1 && inB (gt p 5) 0 4096 && inB (gt p 6) 0 3) := by
  simp [okTo, List.range_succ, gmBounds, gt, Bool.and_assoc]

set_option maxRecDepth 100000 in
set_option maxHeartbeats 4000000 in
theorem refRanges_any (S : St) (V : SV) (w : World) (R : RepSt w V S) (hS : Small S) :
    Calls Tryd.prog 18 #[.agg (stA V S.num)] w fun e w' => e = .returned (.bool (rangesB S)) ∧ Grow w w' := by
  have hN := R.objs.len
  have hSO := hS.objs
  go_enter Tryd.func18, Tryd.ntmps18
  go_wp2_with fail
  go_loopw [12] (fun i wr => ∃ k : Nat, k ≤ S.objs.length ∧ i = .int .i64 k ∧ Hid (objsOK S k = true) ∧ Grow (w.alloc (.cells (stA V S.num) 29)) wr) (fun i _ => S.objs.length - (intOf i).toNat)
  case atStart => exact ⟨0, by omega, rfl, rfl, (by repeat (first | exact Grow.refl _ | refine Grow.andr ?_ | refine Grow.plus ?_ _ | refine Grow.alloc ?_ _ | refine Grow.drew ?_ | refine Grow.drewN ?_ _))⟩
  case round =>
    obtain ⟨k, hk, rfl, hok, x, rfl⟩ := hrel
    by_cases hlt : k < S.objs.length
    · obtain ⟨hb, hw, hsz, hsub, hcell⟩ := R.objs.at (by omega) k hlt
      clear hcell
      generalize hrow : rowAt S.objs k = row at *
      have HR := Lib.hid hrow
      clear hrow
      by_cases hin : okTo (objBounds S.objs.length) row 18 = true
      · have hok2 : Hid (objsOK S (k + 1) = true) := by rw [Hid, objsOK_succ, hok.out, HR.out, hin]; rfl
        go_wp2_with (go_at_call 44; refine (object_any _ _ hw _).mono ?_; rintro e w' ⟨rfl, nx, rfl⟩)
        go_roundw
        case rel => exact ⟨k + 1, by omega, by go_num, hok2, (by repeat (first | exact Grow.refl _ | refine Grow.andr ?_ | refine Grow.plus ?_ _ | refine Grow.alloc ?_ _ | refine Grow.drew ?_ | refine Grow.drewN ?_ _))⟩
        case measure => simp [intOf]; omega
      · have hin' : okTo (objBounds S.objs.length) row 18 = false := by simpa using hin
        have hbad : Hid (rangesB S = false) := by
          rw [Hid, rangesB, objsOK_bad S k _ hlt (by rw [HR.out]; exact hin')]; rfl
        clear hin
        go_wp2_with (go_at_call 44; refine (object_any _ _ hw _).mono ?_; rintro e w' ⟨rfl, nx, rfl⟩)
        go_ret
        exact ⟨ret_bool hbad.out.symm, (by repeat (first | exact Grow.refl _ | refine Grow.andr ?_ | refine Grow.plus ?_ _ | refine Grow.alloc ?_ _ | refine Grow.drew ?_ | refine Grow.drewN ?_ _))⟩
    · have hok2 : Hid (objsOK S S.objs.length = true) := by rw [Hid, ← show k = S.objs.length by omega]; exact hok.out
      clear hok
      go_wp2_with fail
      go_loopw [5] (fun i wr => ∃ p : Nat, p ≤ 2 ∧ i = .int .i64 p ∧ Hid (plsOK S p = true) ∧ Grow (w.alloc (.cells (stA V S.num) 29)) wr) (fun i _ => 2 - (intOf i).toNat)
      case atStart => exact ⟨0, by omega, rfl, rfl, (by repeat (first | exact Grow.refl _ | refine Grow.andr ?_ | refine Grow.plus ?_ _ | refine Grow.alloc ?_ _ | refine Grow.drew ?_ | refine Grow.drewN ?_ _))⟩
      case round =>
        obtain ⟨p, hp, rfl, hpo, z, rfl⟩ := hrel
        by_cases hpt : p < 2
        · have hsp : sub (stA V S.num) (12 + p * 9) 9 = cellsOf (numsL S.num (p * 9) 9) := stA_nums _ _ _ _ (by omega)
          have hp37 : 12 + p * 9 + 9 ≤ 37 := by omega
          generalize hplq : numsL S.num (p * 9) 9 = pl at *
          have HPL := Lib.hid hplq
          have hll : pl.length = 9 := by rw [← hplq]; exact numsL_len _ _ _
          clear hplq
          have hbadp : okTo plBounds pl 9 = false → rangesB S = false := fun h => by
            rw [rangesB, plsOK_bad S p 2 hpt (by rw [HPL.out]; exact h)]; simp
          have HBP := Lib.hid hbadp
          clear hbadp
          by_cases hq : (inB (gt pl 0) (-1073741824) 1073741824 && inB (gt pl 7) 0 1 && inB (gt pl 8) 0 1) = true
          · have q0 : inB (gt pl 0) (-1073741824) 1073741824 = true := by simp_all
            have q7 : inB (gt pl 7) 0 1 = true := by simp_all
            have q8 : inB (gt pl 8) 0 1 = true := by simp_all
            clear hq
            go_wp2_with (go_at_call 45; refine (in_any _ _ _ _).mono ?_; rintro e w' ⟨rfl, rfl⟩)
            go_loopw [7] (fun i wr => ∃ j : Nat, 1 ≤ j ∧ j ≤ 7 ∧ i = .int .i64 j ∧ Hid (∀ t, 1 ≤ t → t < j → inB (gt pl t) 0 1000 = true) ∧ Grow (((w.alloc (.cells (stA V S.num) 29)).plus z).alloc (.cells (cellsOf pl) 25)) wr) (fun i _ => 7 - (intOf i).toNat)
            case atStart => exact ⟨1, by omega, by omega, rfl, fun t h1 h2 => by omega, (by repeat (first | exact Grow.refl _ | refine Grow.andr ?_ | refine Grow.plus ?_ _ | refine Grow.alloc ?_ _ | refine Grow.drew ?_ | refine Grow.drewN ?_ _))⟩
            case round =>
              obtain ⟨j, hj1, hj7, rfl, hjo, y, rfl⟩ := hrel
              by_cases hjt : j ≤ 6
              · have hj9 : j < 9 := by omega
                by_cases hin : inB (gt pl j) 0 1000 = true
                · have hjo2 : Hid (∀ t, 1 ≤ t → t < j + 1 → inB (gt pl t) 0 1000 = true) := fun t h1 h2 => by
                    by_cases e : t = j
                    · subst e; exact hin
                    · exact hjo.out t h1 (by omega)
                  go_wp2_with (go_at_call 45; refine (in_any _ _ _ _).mono ?_; rintro e w' ⟨rfl, rfl⟩)
                  go_roundw
                  case rel => exact ⟨j + 1, by omega, by omega, by go_num, hjo2, (by repeat (first | exact Grow.refl _ | refine Grow.andr ?_ | refine Grow.plus ?_ _ | refine Grow.alloc ?_ _ | refine Grow.drew ?_ | refine Grow.drewN ?_ _))⟩
                  case measure => simp [intOf]; omega
                · have hin' : inB (gt pl j) 0 1000 = false := by simpa using hin
                  have hbad : Hid (rangesB S = false) := HBP.out (okTo_bad _ _ j 9 hj9 (by
                    have : j = 1 ∨ j = 2 ∨ j = 3 ∨ j = 4 ∨ j = 5 ∨ j = 6 := by omega
                    rcases this with rfl | rfl | rfl | rfl | rfl | rfl <;> exact hin'))
                  clear hin
                  go_wp2_with (go_at_call 45; refine (in_any _ _ _ _).mono ?_; rintro e w' ⟨rfl, rfl⟩)
                  go_ret
                  exact ⟨ret_bool hbad.out.symm, (by repeat (first | exact Grow.refl _ | refine Grow.andr ?_ | refine Grow.plus ?_ _ | refine Grow.alloc ?_ _ | refine Grow.drew ?_ | refine Grow.drewN ?_ _))⟩
              · have hpo2 : Hid (plsOK S (p + 1) = true) := by
                  have h := hjo.out
                  rw [Hid, plsOK_succ, hpo.out, HPL.out, okTo_players, q0, q7, q8, h 1 (by omega) (by omega), h 2 (by omega) (by omega), h 3 (by omega) (by omega), h 4 (by omega) (by omega), h 5 (by omega) (by omega), h 6 (by omega) (by omega)]; rfl
                go_wp2_with fail
                go_roundw
                case rel => exact ⟨p + 1, by omega, by go_num, hpo2, (by repeat (first | exact Grow.refl _ | refine Grow.andr ?_ | refine Grow.plus ?_ _ | refine Grow.alloc ?_ _ | refine Grow.drew ?_ | refine Grow.drewN ?_ _))⟩
                case measure => simp [intOf]; omega
          · have hbad : Hid (rangesB S = false) := HBP.out (by
              cases h : okTo plBounds pl 9 with
              | false => rfl
              | true => rw [okTo_players] at h; simp_all)
            go_wp2_with (go_at_call 45; refine (in_any _ _ _ _).mono ?_; rintro e w' ⟨rfl, rfl⟩)
            all_goals first
              | (go_ret; exact ⟨ret_bool hbad.out.symm, (by repeat (first | exact Grow.refl _ | refine Grow.andr ?_ | refine Grow.plus ?_ _ | refine Grow.alloc ?_ _ | refine Grow.drew ?_ | refine Grow.drewN ?_ _))⟩)
              | (exfalso; simp_all; done)
        · have hpo2 : Hid (plsOK S 2 = true) := by rw [Hid, ← show p = 2 by omega]; exact hpo.out
          clear hpo
          have hyes : Hid (rangesB S = okTo gmBounds (numsL S.num 18 7) 7) := by rw [Hid, rangesB, hok2.out, hpo2.out]; rfl
          go_wp2_with (go_at_call 45; refine (in_any _ _ _ _).mono ?_; rintro e w' ⟨rfl, rfl⟩)
          all_goals go_ret
          all_goals exact ⟨ret_bool (by rw [hyes.out, okTo_game]; simp_all), (by repeat (first | exact Grow.refl _ | refine Grow.andr ?_ | refine Grow.plus ?_ _ | refine Grow.alloc ?_ _ | refine Grow.drew ?_ | refine Grow.drewN ?_ _))⟩
end Go.Proofs.YtmmkmhpchoelkaaDoor
