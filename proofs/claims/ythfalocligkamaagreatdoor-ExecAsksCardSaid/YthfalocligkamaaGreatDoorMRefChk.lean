/- The walks of the reference's Check of a state. -/
import Derived.Test.YthfalocligkamaaGreatDoorMRanges
import Derived.Deep.Light
namespace Go.Proofs.YthfalocligkamaaGreatDoor
open Go Go.RowKit
theorem zkx (x a b : Int) (w : World) : Calls Tryz.prog 64 #[.int .i64 x, .int .i64 a, .int .i64 b] w fun e w' => e = .returned (.bool (inB x a b)) ∧ w' = w := by
 by_cases hax : a ≤ x
 · go_enter Tryz.func64, Tryz.ntmps64
   go_wp2_with fail
   go_ret
   exact ⟨zao (by simp [inB, hax]), rfl⟩
 · go_enter Tryz.func64, Tryz.ntmps64
   go_wp2_with fail
   go_ret
   exact ⟨zao (by simp [inB]; omega), rfl⟩
set_option maxRecDepth 100000 in
set_option maxHeartbeats 4000000 in
theorem zk3 (o : List Int) (n : Int) (ho : o.length = 18) (w : World) :
 Calls Tryz.prog 63 #[.agg (cellsOf o), .int .i64 n] w fun e w' => e = .returned (.bool (zdv (zal n) o 18)) ∧ Grow w w' := by
 go_enter Tryz.func63, Tryz.ntmps63
 go_wp2_with (go_at_call 64; refine (zkx _ _ _ _).mono ?_; rintro e w' ⟨rfl, rfl⟩)
 all_goals go_ret
 all_goals exact ⟨zao (by simp_all [zdv, List.range_succ, zal, gt]), grI⟩
theorem zsj (o : List Int) : zbf o = (!(gt o 3 != 8 && (gt o 4 != 0 || (gt o 5 != 0 || (gt o 6 != 0 || (gt o 7 != 0 || (gt o 8 != 0 || (gt o 9 != 0 || (gt o 10 != 0 || (gt o 11 != 0 || (gt o 12 != 0 || false)))))))))) && !(decide (gt o 3 < 8) && gt o 2 != gt o 1) && (gt o 3 == 9 || gt o 16 == 0)) := rfl
set_option maxRecDepth 100000 in
set_option maxHeartbeats 4000000 in
theorem zl5 (o : List Int) (ho : o.length = 18) (w : World) :
 Calls Tryz.prog 44 #[.agg (cellsOf o)] w fun e w' => e = .returned (.bool (zbf o)) ∧ Grow w w' := by
 go_enter Tryz.func44, Tryz.ntmps44
 go_wp2_with fail
 all_goals go_ret
 all_goals exact ⟨zao (by simp_all [zsj]; try omega), grI⟩
end Go.Proofs.YthfalocligkamaaGreatDoor
namespace Go.Proofs.YthfalocligkamaaGreatDoor
open Go Go.RowKit
theorem zig (p : List Int) : zdv plBounds p 9 = (inB (gt p 0) (-1073741824) 1073741824 && inB (gt p 1) 0 1000 && inB (gt p 2) 0 1000 && inB (gt p 3) 0 1000 && inB (gt p 4) 0 1000 && inB (gt p 5) 0 1000 && inB (gt p 6) 0 1000 && inB (gt p 7) 0 1 && inB (gt p 8) 0 1) := by
 simp [zdv, List.range_succ, plBounds, gt, Bool.and_assoc]
theorem zw7 (p : List Int) : zdv gmBounds p 7 = (inB (gt p 0) 0 1073741824 && inB (gt p 1) 0 1 && inB (gt p 2) 0 7 && inB (gt p 3) 0 1 && inB (gt p 4) 0 1 && inB (gt p 5) 0 4096 && inB (gt p 6) 0 3) := by
 simp [zdv, List.range_succ, gmBounds, gt, Bool.and_assoc]
set_option maxRecDepth 100000 in
set_option maxHeartbeats 4000000 in
theorem zl6 (S : St) (V : SV) (w : World) (R : RepSt w V S) (hS : Small S) :
 Calls Tryz.prog 42 #[.agg (stA V S.num)] w fun e w' => e = .returned (.bool (zbp S)) ∧ Grow w w' := by
 have hN := R.objs.len
 have hSO := hS.objs
 go_enter Tryz.func42, Tryz.ntmps42
 go_wp2_with fail
 go_loopw [12] (fun i wr => ∃ k : Nat, k ≤ S.objs.length ∧ i = .int .i64 k ∧ Hid (zeu S k = true) ∧ Grow (w.alloc (.cells (stA V S.num) 29)) wr) (fun i _ => S.objs.length - (intOf i).toNat)
 case atStart => exact ⟨0, by omega, rfl, rfl, grI⟩
 case round =>
  obtain ⟨k, hk, rfl, hok, x, rfl⟩ := hrel
  by_cases hlt : k < S.objs.length
  · obtain ⟨hb, hw, hsz, hsub, hcell⟩ := R.objs.at (by omega) k hlt
    clear hcell
    generalize hrow : rowAt S.objs k = row at *
    have HR := Lib.hid hrow
    clear hrow
    by_cases hin : zdv (zal S.objs.length) row 18 = true
    · have hok2 : Hid (zeu S (k + 1) = true) := by rw [Hid, zjn, hok.out, HR.out, hin]; rfl
      go_wp2_with (go_at_call 63; refine (zk3 _ _ hw _).mono ?_; rintro e w' ⟨rfl, nx, rfl⟩)
      go_roundw
      case rel => exact ⟨k + 1, by omega, by go_num, hok2, grI⟩
      case measure => simp [intOf]; omega
    · have hin' : zdv (zal S.objs.length) row 18 = false := by simpa using hin
      have hbad : Hid (zbp S = false) := by
       rw [Hid, zbp, zk4 S k _ hlt (by rw [HR.out]; exact hin')]; rfl
      clear hin
      go_wp2_with (go_at_call 63; refine (zk3 _ _ hw _).mono ?_; rintro e w' ⟨rfl, nx, rfl⟩)
      go_ret
      exact ⟨zao hbad.out.symm, grI⟩
  · have hok2 : Hid (zeu S S.objs.length = true) := by rw [Hid, ← show k = S.objs.length by omega]; exact hok.out
    clear hok
    go_wp2_with fail
    go_loopw [5] (fun i wr => ∃ p : Nat, p ≤ 2 ∧ i = .int .i64 p ∧ Hid (zfn S p = true) ∧ Grow (w.alloc (.cells (stA V S.num) 29)) wr) (fun i _ => 2 - (intOf i).toNat)
    case atStart => exact ⟨0, by omega, rfl, rfl, grI⟩
    case round =>
     obtain ⟨p, hp, rfl, hpo, z, rfl⟩ := hrel
     by_cases hpt : p < 2
     · have hsp : sub (stA V S.num) (12 + p * 9) 9 = cellsOf (zc7 S.num (p * 9) 9) := zhm _ _ _ _ (by omega)
       have hp37 : 12 + p * 9 + 9 ≤ 37 := by omega
       generalize hplq : zc7 S.num (p * 9) 9 = pl at *
       have HPL := Lib.hid hplq
       have hll : pl.length = 9 := by rw [← hplq]; exact zd3 _ _ _
       clear hplq
       have hbadp : zdv plBounds pl 9 = false → zbp S = false := fun h => by
        rw [zbp, znj S p 2 hpt (by rw [HPL.out]; exact h)]; simp
       have HBP := Lib.hid hbadp
       clear hbadp
       by_cases hq : (inB (gt pl 0) (-1073741824) 1073741824 && inB (gt pl 7) 0 1 && inB (gt pl 8) 0 1) = true
       · have q0 : inB (gt pl 0) (-1073741824) 1073741824 = true := by simp_all
         have q7 : inB (gt pl 7) 0 1 = true := by simp_all
         have q8 : inB (gt pl 8) 0 1 = true := by simp_all
         clear hq
         go_wp2_with (go_at_call 64; refine (zkx _ _ _ _).mono ?_; rintro e w' ⟨rfl, rfl⟩)
         go_loopw [7] (fun i wr => ∃ j : Nat, 1 ≤ j ∧ j ≤ 7 ∧ i = .int .i64 j ∧ Hid (∀ t, 1 ≤ t → t < j → inB (gt pl t) 0 1000 = true) ∧ Grow (((w.alloc (.cells (stA V S.num) 29)).plus z).alloc (.cells (cellsOf pl) 25)) wr) (fun i _ => 7 - (intOf i).toNat)
         case atStart => exact ⟨1, by omega, by omega, rfl, fun t h1 h2 => by omega, grI⟩
         case round =>
          obtain ⟨j, hj1, hj7, rfl, hjo, y, rfl⟩ := hrel
          by_cases hjt : j ≤ 6
          · have hj9 : j < 9 := by omega
            by_cases hin : inB (gt pl j) 0 1000 = true
            · have hjo2 : Hid (∀ t, 1 ≤ t → t < j + 1 → inB (gt pl t) 0 1000 = true) := fun t h1 h2 => by
               by_cases e : t = j
               · subst e; exact hin
               · exact hjo.out t h1 (by omega)
              go_wp2_with (go_at_call 64; refine (zkx _ _ _ _).mono ?_; rintro e w' ⟨rfl, rfl⟩)
              go_roundw
              case rel => exact ⟨j + 1, by omega, by omega, by go_num, hjo2, grI⟩
              case measure => simp [intOf]; omega
            · have hin' : inB (gt pl j) 0 1000 = false := by simpa using hin
              have hbad : Hid (zbp S = false) := HBP.out (zir _ _ j 9 hj9 (by
               have : j = 1 ∨ j = 2 ∨ j = 3 ∨ j = 4 ∨ j = 5 ∨ j = 6 := by omega
               rcases this with rfl | rfl | rfl | rfl | rfl | rfl <;> exact hin'))
              clear hin
              go_wp2_with (go_at_call 64; refine (zkx _ _ _ _).mono ?_; rintro e w' ⟨rfl, rfl⟩)
              go_ret
              exact ⟨zao hbad.out.symm, grI⟩
          · have hpo2 : Hid (zfn S (p + 1) = true) := by
             have h := hjo.out
             rw [Hid, zk7, hpo.out, HPL.out, zig, q0, q7, q8, h 1 (by omega) (by omega), h 2 (by omega) (by omega), h 3 (by omega) (by omega), h 4 (by omega) (by omega), h 5 (by omega) (by omega), h 6 (by omega) (by omega)]; rfl
            go_wp2_with fail
            go_roundw
            case rel => exact ⟨p + 1, by omega, by go_num, hpo2, grI⟩
            case measure => simp [intOf]; omega
       · have hbad : Hid (zbp S = false) := HBP.out (by
          cases h : zdv plBounds pl 9 with
          | false => rfl
          | true => rw [zig] at h; simp_all)
         go_wp2_with (go_at_call 64; refine (zkx _ _ _ _).mono ?_; rintro e w' ⟨rfl, rfl⟩)
         all_goals first
          | (go_ret; exact ⟨zao hbad.out.symm, grI⟩)
          | (exfalso; simp_all; done)
     · have hpo2 : Hid (zfn S 2 = true) := by rw [Hid, ← show p = 2 by omega]; exact hpo.out
       clear hpo
       have hyes : Hid (zbp S = zdv gmBounds (zc7 S.num 18 7) 7) := by rw [Hid, zbp, hok2.out, hpo2.out]; rfl
       go_wp2_with (go_at_call 64; refine (zkx _ _ _ _).mono ?_; rintro e w' ⟨rfl, rfl⟩)
       all_goals go_ret
       all_goals exact ⟨zao (by rw [hyes.out, zw7]; simp_all), grI⟩
end Go.Proofs.YthfalocligkamaaGreatDoor
namespace Go.Proofs.YthfalocligkamaaGreatDoor
open Go Go.RowKit
set_option maxRecDepth 100000 in
set_option maxHeartbeats 4000000 in
theorem zno (S : St) (V : SV) (w : World) (R : RepSt w V S) (hS : Small S) :
 Calls Tryz.prog 43 #[.agg (stA V S.num)] w fun e w' => e = .returned (.bool (zb4 S)) ∧ Grow w w' := by
 have hN := R.objs.len
 have hSO := hS.objs
 have hLN := fun z hz => (R.list z hz).len
 go_enter Tryz.func43, Tryz.ntmps43
 go_wp2_with fail
 go_loopw [3] (fun i wr => ∃ z : Nat, z ≤ 11 ∧ i = .int .i64 z ∧ Hid (zjk S z = true) ∧ Grow (w.alloc (.cells (stA V S.num) 29)) wr) (fun i _ => 11 - (intOf i).toNat)
 case atStart => exact ⟨0, by omega, rfl, rfl, grI⟩
 case round =>
  obtain ⟨z, hz, rfl, hzo, x, rfl⟩ := hrel
  by_cases hzt : z < 11
  · have hlz := hLN z hzt
    have hsz := hS.list z hzt
    go_wp2_with fail
    rw [show decide ((z : Int) < 11) = true by simp; omega]
    go_loopw [21] (fun i wr => ∃ k : Nat, k ≤ (S.list z).length ∧ i = .int .i64 k ∧ Hid (((S.list z).take k).all (zsr S) = true) ∧ Grow (w.alloc (.cells (stA V S.num) 29)) wr) (fun i _ => (S.list z).length - (intOf i).toNat)
    case atStart => exact ⟨0, by omega, rfl, (by rw [Hid, List.take_zero]; rfl), grI⟩
    case round =>
     obtain ⟨k, hk, rfl, hko, y, rfl⟩ := hrel
     by_cases hkt : k < (S.list z).length
     · obtain ⟨hlb, hlc⟩ := (R.list z hzt).at k hkt
       have hbadf : zsr S (gt (S.list z) k) = false → zb4 S = false := fun h => by rw [zb4, zwv S z 11 k hzt hkt h]; rfl
       have hnext : zsr S (gt (S.list z) k) = true → ((S.list z).take (k + 1)).all (zsr S) = true := fun h => by rw [zgu _ _ _ hkt, hko.out, h]; rfl
       have HBF := Lib.hid hbadf
       have HNX := Lib.hid hnext
       clear hbadf hnext
       generalize gt (S.list z) k = id at *
       by_cases h0 : id < 0
       · have hbad : Hid (zb4 S = false) := HBF.out (by simp [zsr]; omega)
         go_wp2_with fail
         go_ret
         exact ⟨zao hbad.out.symm, grI⟩
       · by_cases hn : (S.objs.length : Int) ≤ id
         · have hbad : Hid (zb4 S = false) := HBF.out (by simp [zsr]; omega)
           go_wp2_with fail
           go_ret
           exact ⟨zao hbad.out.symm, grI⟩
         · have hko2 : Hid (((S.list z).take (k + 1)).all (zsr S) = true) := HNX.out (by simp [zsr]; omega)
           go_wp2_with fail
           go_roundw
           case rel => exact ⟨k + 1, by omega, by go_num, hko2, grI⟩
           case measure => simp [intOf]; omega
     · have hzo2 : Hid (zjk S (z + 1) = true) := by
        have h1 := hko.out
        rw [List.take_of_length_le (by omega)] at h1
        rw [Hid, zss, hzo.out, h1]; rfl
       go_wp2_with fail
       go_roundw
       case rel => exact ⟨z + 1, by omega, by go_num, hzo2, grI⟩
       case measure => simp [intOf]; omega
  · have hzo2 : Hid (zjk S 11 = true) := by rw [Hid, ← show z = 11 by omega]; exact hzo.out
    clear hzo
    go_wp2_with fail
    go_loopw [38] (fun i wr => ∃ id : Nat, id ≤ S.objs.length ∧ i = .int .i64 id ∧ Hid ((List.range id).all (zep S) = true) ∧ Grow (w.alloc (.cells (stA V S.num) 29)) wr) (fun i _ => S.objs.length - (intOf i).toNat)
    case atStart => exact ⟨0, by omega, rfl, rfl, grI⟩
    case round =>
     obtain ⟨id, hid, rfl, hido, x2, rfl⟩ := hrel
     by_cases hidt : id < S.objs.length
     · obtain ⟨hob, how, hosz, hosub, hocell⟩ := R.objs.at (by omega) id hidt
       clear hocell
       have hbadf : zep S id = false → zb4 S = false := fun h => by
        have : (List.range S.objs.length).all (zep S) = false := by
         rw [List.all_eq_false]; exact ⟨id, List.mem_range.2 hidt, by simp [h]⟩
        rw [zb4, this]; simp
       have hnext : zep S id = true → (List.range (id + 1)).all (zep S) = true := fun h => by
        rw [List.range_succ, List.all_append, hido.out]; simp [h]
       have HBF := Lib.hid hbadf
       have HNX := Lib.hid hnext
       have HOB : Hid (zep S id = (zhc S id (rowAt S.objs id) 11 && zcg S id 11 == 1 && zj0 (rowAt S.objs id))) := rfl
       clear hbadf hnext
       generalize rowAt S.objs id = row at *
       go_wp2_with fail
       try rw [show decide ((id : Int) < S.objs.length) = true by simp; omega]
       go_loopw [8, 9] (fun m i wr => ∃ z : Nat, z ≤ 11 ∧ i = .int .i64 z ∧ m = .int .i64 (zcg S id z) ∧ Hid (zhc S id row z = true) ∧ Grow (((w.alloc (.cells (stA V S.num) 29)).plus x2).alloc (.cells (cellsOf row) 57)) wr) (fun _ i _ => 11 - (intOf i).toNat)
       case atStart => exact ⟨0, by omega, rfl, rfl, rfl, grI⟩
       case round =>
        obtain ⟨z, hz, rfl, rfl, hzo, y, rfl⟩ := hrel
        by_cases hzt : z < 11
        · have hlz := hLN z hzt
          have hsz := hS.list z hzt
          have hcl := zqi S hS id z (by omega)
          go_wp2_with fail
          try rw [show decide ((z : Int) < 11) = true by simp; omega]
          go_loopw [8, 52] (fun m i wr => ∃ j : Nat, j ≤ (S.list z).length ∧ i = .int .i64 j ∧ m = .int .i64 ((zcg S id z + ((S.list z).take j).count (id : Int) : Nat) : Int) ∧ Hid (((S.list z).take j).all (fun x => x != (id : Int) || (z : Int) == gt row 3) = true) ∧
           Grow (((w.alloc (.cells (stA V S.num) 29)).plus x2).alloc (.cells (cellsOf row) 57)) wr) (fun _ i _ => (S.list z).length - (intOf i).toNat)
          case atStart => exact ⟨0, by omega, rfl, by simp, (by rw [Hid, List.take_zero]; rfl), grI⟩
          case round =>
           obtain ⟨j, hj, rfl, rfl, hjo, y2, rfl⟩ := hrel
           have hct : ((S.list z).take j).count (id : Int) ≤ j := by
            have h1 : ((S.list z).take j).count (id : Int) ≤ ((S.list z).take j).length := List.count_le_length
            rw [List.length_take] at h1; omega
           by_cases hjt : j < (S.list z).length
           · obtain ⟨hlb, hlc⟩ := (R.list z hzt).at j hjt
             have hcs := zi5 (S.list z) j hjt (id : Int)
             have hns := zgu (fun x => x != (id : Int) || (z : Int) == gt row 3) (S.list z) j hjt
             have HBO := Lib.hid (fun h h3 => zxf S id row z 11 j hzt hjt h h3)
             have HCS := Lib.hid hcs
             have HNS := Lib.hid hns
             clear hcs hns
             generalize gt (S.list z) j = u at *
             by_cases hu : u = id
             · by_cases h3 : (z : Int) = gt row 3
               · have hj2 : Hid (((S.list z).take (j + 1)).all (fun x => x != (id : Int) || (z : Int) == gt row 3) = true) := by rw [Hid, HNS.out, hjo.out]; simp [h3]
                 have hc2 : Hid (((zcg S id z + ((S.list z).take j).count (id : Int) : Nat) : Int) + 1 = ((zcg S id z + ((S.list z).take (j + 1)).count (id : Int) : Nat) : Int)) := by
                  rw [Hid, HCS.out, if_pos hu]; omega
                 go_wp2_with fail
                 go_roundw
                 case rel => exact ⟨j + 1, by omega, by go_num, by rw [← hc2.out]; go_num, hj2, grI⟩
                 case measure => simp [intOf]; omega
               · have hbad : Hid (zb4 S = false) := HBF.out (by rw [HOB.out, HBO.out hu h3]; rfl)
                 go_wp2_with fail
                 go_ret
                 exact ⟨zao hbad.out.symm, grI⟩
             · have hj2 : Hid (((S.list z).take (j + 1)).all (fun x => x != (id : Int) || (z : Int) == gt row 3) = true) := by rw [Hid, HNS.out, hjo.out]; simp [hu]
               have hc2 : Hid (((S.list z).take j).count (id : Int) = ((S.list z).take (j + 1)).count (id : Int)) := by rw [Hid, HCS.out, if_neg hu]; rfl
               go_wp2_with fail
               go_roundw
               case rel => exact ⟨j + 1, by omega, by go_num, by rw [← hc2.out], hj2, grI⟩
               case measure => simp [intOf]; omega
           · have hfull : (S.list z).take j = S.list z := List.take_of_length_le (by omega)
             have hz2 : Hid (zhc S id row (z + 1) = true) := by
              have h1 := hjo.out
              rw [hfull] at h1
              rw [Hid, zs4, hzo.out, h1]; rfl
             have hc2 : Hid (zcg S id z + ((S.list z).take j).count (id : Int) = zcg S id (z + 1)) := by rw [Hid, zb0, hfull]
             clear hfull
             go_wp2_with fail
             go_roundw
             case rel => exact ⟨z + 1, by omega, by go_num, by rw [← hc2.out], hz2, grI⟩
             case measure => simp [intOf]; omega
        · have hz11 : Hid (zhc S id row 11 = true) := by rw [Hid, ← show z = 11 by omega]; exact hzo.out
          have hce : zcg S id z = zcg S id 11 := by rw [show z = 11 by omega]
          go_wp2_with fail
          all_goals first
           | (have hbad : Hid (zb4 S = false) := HBF.out (by rw [HOB.out, hz11.out]; go_light; simp_all [zj0]; try omega)
              go_ret
              exact ⟨zao hbad.out.symm, grI⟩)
           | (have hnxt : Hid ((List.range (id + 1)).all (zep S) = true) := HNX.out (by rw [HOB.out, hz11.out]; go_light; simp_all [zj0]; try omega)
              go_roundw
              case rel => exact ⟨id + 1, by omega, by go_num, hnxt, grI⟩
              case measure => simp [intOf]; omega)
     · have hall : Hid (zb4 S = true) := by
        have h1 := hido.out
        rw [show id = S.objs.length by omega] at h1
        rw [Hid, zb4, hzo2.out, h1]; rfl
       go_wp2_with fail
       go_ret
       exact ⟨zao hall.out.symm, grI⟩
end Go.Proofs.YthfalocligkamaaGreatDoor
namespace Go.Proofs.YthfalocligkamaaGreatDoor
open Go Go.RowKit
theorem zpg (l : List (List Int)) (k : Nat) (hk : k < l.length) : (l.drop k).any (fun o => !zbf o) = (!zbf (rowAt l k) || (l.drop (k + 1)).any fun o => !zbf o) := by
 rw [List.drop_eq_getElem_cons hk, List.any_cons]
 have : rowAt l k = l[k] := by simp [rowAt, hk]
 rw [this]
set_option maxRecDepth 100000 in
set_option maxHeartbeats 2000000 in
theorem zek (S : St) (V : SV) (w : World) (R : RepSt w V S) (hS : Small S) :
 Calls Tryz.prog 19 #[.agg (stA V S.num)] w fun e w' => e = .returned (.int .i64 (checkN S)) ∧ Grow w w' := by
 have hN := R.objs.len
 have hSO := hS.objs
 have HRa := Lib.hid (fun W (g : Grow w W) => zl6 S V W (R.grow g) hS)
 have HZo := Lib.hid (fun W (g : Grow w W) => zno S V W (R.grow g) hS)
 have HR := Lib.hid R
 clear R hS
 by_cases h400 : 400 < S.objs.length
 · have hv : Hid (checkN S = 5) := by rw [Hid, checkN, if_pos h400]
   go_enter Tryz.func19, Tryz.ntmps19
   go_wp2_with fail
   go_ret
   exact ⟨by rw [hv.out]; rfl, grI⟩
 cases hr : zbp S with
 | false =>
   have hv : Hid (checkN S = 1) := by rw [Hid, checkN, if_neg h400, if_pos hr]
   rw [hr] at HRa
   go_enter Tryz.func19, Tryz.ntmps19
   go_wp2_with (go_at_call 42; refine (HRa.out _ grI).mono ?_; rintro e' w' ⟨rfl, nx, rfl⟩)
   go_ret
   exact ⟨by rw [hv.out]; rfl, grI⟩
 | true =>
 rw [hr] at HRa
 rw [zuk] at HZo
 cases hz : zdp S with
 | false =>
   have hv : Hid (checkN S = 12) := by rw [Hid, checkN, if_neg h400, if_neg (by rw [hr]; exact Bool.noConfusion), if_pos hz]
   rw [hz] at HZo
   clear hr hz
   go_enter Tryz.func19, Tryz.ntmps19
   go_wp2_with (first | (go_at_call 42; refine (HRa.out _ grI).mono ?_; rintro e' w' ⟨rfl, nx, rfl⟩) | (go_at_call 43; refine (HZo.out _ grI).mono ?_; rintro e' w' ⟨rfl, nx, rfl⟩))
   go_ret
   exact ⟨by rw [hv.out]; rfl, grI⟩
 | true =>
 rw [hz] at HZo
 have hv : Hid (checkN S = if zfm S = true then 2 else 0) := by rw [Hid, checkN, if_neg h400, if_neg (by rw [hr]; exact Bool.noConfusion), if_neg (by rw [hz]; exact Bool.noConfusion)]
 clear hr hz
 generalize hnf : zfm S = nf at *
 have HNF : Hid ((S.objs.drop 0).any (fun o => !zbf o) = nf) := hnf
 clear hnf
 go_enter Tryz.func19, Tryz.ntmps19
 go_wp2_with (first | (go_at_call 42; refine (HRa.out _ grI).mono ?_; rintro e' w' ⟨rfl, nx, rfl⟩) | (go_at_call 43; refine (HZo.out _ grI).mono ?_; rintro e' w' ⟨rfl, nx, rfl⟩))
 rename_i n1 n2
 go_loopw [18] (fun i wr => ∃ (k : Nat) (x : Ext), k ≤ S.objs.length ∧ i = .int .i64 k ∧ wr = (w.alloc (.cells (stA V S.num) 29)).plus x ∧ Hid ((S.objs.drop k).any (fun o => !zbf o) = nf)) (fun i _ => S.objs.length - (intOf i).toNat)
 case atStart => exact ⟨0, _, Nat.zero_le _, rfl, rfl, HNF⟩
 case round =>
  obtain ⟨k, x, hk, rfl, rfl, hf⟩ := hrel
  by_cases hlt : k < S.objs.length
  · obtain ⟨qb, qw, qsz, qsub, _⟩ := HR.out.objs.at (by omega) k hlt
    have hff := hf.out
    rw [zpg _ _ hlt] at hff
    have HC := Lib.hid (zl5 (rowAt S.objs k) qw)
    generalize rowAt S.objs k = row at *
    have nq : ¬ V.objs.b = w.heap.size := by omega
    have nq2 : V.objs.b < w.heap.size + 1 := by omega
    cases hc : zbf row with
    | true =>
      rw [hc] at hff HC
      have HFF : Hid ((S.objs.drop (k + 1)).any (fun o => !zbf o) = nf) := by rw [Hid]; simpa using hff
      clear hff hc hf
      go_wp2_with (go_at_call 44; refine (HC.out _).mono ?_; rintro e' w' ⟨rfl, nx, rfl⟩)
      go_roundw
      case rel => exact ⟨k + 1, _, by omega, by go_num, by first | rfl | exact zf0 _ _ _ | (rw [zf0]; exact zad _ _ _), HFF⟩
      case measure => simp [intOf]; omega
    | false =>
      rw [hc] at hff HC
      obtain rfl : nf = true := by simpa using hff.symm
      clear hff hc hf
      go_wp2_with (go_at_call 44; refine (HC.out _).mono ?_; rintro e' w' ⟨rfl, nx, rfl⟩)
      go_ret
      exact ⟨by rw [hv.out]; rfl, grI⟩
  · obtain rfl : nf = false := by have := hf.out; rw [List.drop_eq_nil_of_le (by omega)] at this; exact this.symm
    go_wp2_with fail
    go_ret
    exact ⟨by rw [hv.out]; rfl, grI⟩
end Go.Proofs.YthfalocligkamaaGreatDoor
