/-
  The walk of the reference's Ways.
-/
import Derived.Test.YtondnigiepkobaaRefWays
namespace Go.Proofs.Ytondnigiepkobaa
open Go Go.RowKit

set_option maxRecDepth 100000 in
set_option maxHeartbeats 2000000 in
theorem refWays_yes (p c : List Int) (hp : p.length = 6) (hc : c.length = 6) (hcan : canL p c = true) (h60 : p.sum ≤ 60) (w : World) :
    Calls Try.prog 17 #[.agg (cellsOf p), .agg (cellsOf c)] w fun e w' => e = .returned (.tuple #[.int .i64 (waysL (backTo p c 6) (gt c 5)), .int .i64 0]) ∧ Grow w w' := by
  have gp := (canL_good hcan).1
  have gc := (canL_good hcan).2
  have GP := Lib.hid gp
  have GC := Lib.hid gc
  have F := free_of hp hcan h60
  have HC := Lib.hid hcan
  go_enter Try.func17, Try.ntmps17
  go_wp2_with (first | (go_at_call 14; refine (refGood_any _ (by assumption) _).mono ?_; rintro e w' ⟨rfl, nx, rfl⟩) | (go_at_call 12; refine (refCan_any _ _ hp hc _).mono ?_; rintro e w' ⟨rfl, nx, rfl⟩) | (go_at_call 24; refine (refTotal_any _ hp GP.out _).mono ?_; rintro e w' ⟨rfl, nx, rfl⟩))
  clear gp gc hcan h60
  go_loopw [6, 7, 8, 9, 10, 11] (fun s i _ _ _ _ wr => ∃ k : Nat, k ≤ 6 ∧ i = .int .i64 k ∧ ∃ x1 x2, s = .slice (some ⟨w.heap.size + 1 + 1 + x1.objs.size, 0, none⟩) (sumsTo p c k).length (sumsTo p c k).length ∧ wr = ((((w.alloc (.cells (cellsOf p) 23)).alloc (.cells (cellsOf c) 23)).plus x1).alloc (.cells (cellsOf (sumsTo p c k)) 3)).plus x2) (fun _ i _ _ _ _ _ => 6 - (intOf i).toNat)
  case atStart => exact ⟨0, by omega, rfl, _, Ext.none, rfl, by rw [plus_none]; rfl⟩
  case round =>
    obtain ⟨k, hk, rfl, x1, x2, rfl, rfl⟩ := hrel
    by_cases hlt : k < 6
    · have HT : Hid (sumsTo p c (k + 1) = tabTo (sumsTo p c k) (freeAt p c k).toNat (List.replicate ((sumsTo p c k).length + (freeAt p c k).toNat) 0) (sumsTo p c k).length) := rfl
      have HB : Hid (∀ i, 0 ≤ gt (sumsTo p c k) i ∧ gt (sumsTo p c k) i ≤ 51520374361) := sums_bd F k hk
      have hL := F.len k hk
      have e0 := F.pos k
      have e1 := F.top k
      have hkl : (sumsTo p c (k + 1)).length = (sumsTo p c k).length + (freeAt p c k).toNat := sumsTo_len p c k
      have hfe : (k < 5 → gt p k - gt c k = freeAt p c k) ∧ (¬ k < 5 → gt p k = freeAt p c k) := ⟨fun h => by rw [freeAt, if_pos h], fun h => by rw [freeAt, if_neg h]⟩
      generalize hS1 : sumsTo p c (k + 1) = S1 at *
      generalize sumsTo p c k = S at *
      generalize freeAt p c k = e at *
      have HS1 := Lib.hid hS1
      have HKL := Lib.hid hkl
      obtain ⟨hf1, hf2⟩ := hfe
      have HF1 := Lib.hid hf1
      have HF2 := Lib.hid hf2
      clear hS1 hkl hf1 hf2
      have hN : ((S.length : Int) + e).toNat = S.length + e.toNat := by omega
      have bc := goodL_gt GC.out k
      have bp := goodL_gt GP.out k
      have hm0 : 0 ≤ (S.length : Int) + e := by omega
      have hm1 : (S.length : Int) + e ≤ 1099511627776 := by omega
      have HZ : Hid (∀ i, gt (List.replicate (S.length + e.toNat) 0) i = 0) := gt_zeros _
      have hz : (List.replicate (S.length + e.toNat) (0 : Int)).length = S.length + e.toNat := List.length_replicate ..
      have bS : Hid (∀ a b i, a + e.toNat + 1 ≤ S.length + e.toNat → b ≤ e.toNat + 1 → 0 ≤ gt (rowTo S a (tabTo S e.toNat (List.replicate (S.length + e.toNat) 0) a) b) i ∧ gt (rowTo S a (tabTo S e.toNat (List.replicate (S.length + e.toNat) 0) a) b) i ≤ ((a : Int) + 1) * 51520374361) :=
        fun a b i ha hb => tab_bd _ _ _ (by omega) HB.out HZ.out a b i (by rw [hz]; omega) hb
      have HlT : Hid (∀ a, (tabTo S e.toNat (List.replicate (S.length + e.toNat) 0) a).length = S.length + e.toNat) := fun a => by rw [tabTo_len, hz]
      have HlR : Hid (∀ a b, (rowTo S a (tabTo S e.toNat (List.replicate (S.length + e.toNat) 0) a) b).length = S.length + e.toNat) := fun a b => by rw [rowTo_len, tabTo_len, hz]
      by_cases h5 : k < 5
      · have hfe := HF1.out h5
        go_wp2_with fail
        refine wp_region_grow (by kernel_rfl) (by kernel_rfl) ?_; (repeat (go_big_quiet_step ( fail ))); refine wpQuiet_nil ?_; rintro _ ⟨nx, rfl⟩
        go_wp2_with fail
        generalize x2.and nx = y2
        clear hfe
        go_loopw [10, 11] (fun i _ wr => ∃ a : Nat, a ≤ S.length ∧ i = .int .i64 a ∧ Grow ((((((w.alloc (.cells (cellsOf p) 23)).alloc (.cells (cellsOf c) 23)).plus x1).alloc (.cells (cellsOf S) 3)).plus y2).alloc (.cells (cellsOf (tabTo S e.toNat (List.replicate (S.length + e.toNat) 0) a)) 3)) wr) (fun i _ _ => S.length - (intOf i).toNat)
        case atStart => exact ⟨0, by omega, rfl, (by repeat (first | exact Grow.refl _ | refine Grow.plus ?_ _ | refine Grow.alloc ?_ _ | refine Grow.drew ?_))⟩
        case round =>
          obtain ⟨a, ha, rfl, z, rfl⟩ := hrel
          have lT := HlT.out a
          by_cases hat : a < S.length
          · go_wp2_with fail
            go_loopw [11] (fun i wr => ∃ b : Nat, b ≤ e.toNat + 1 ∧ i = .int .i64 b ∧ Grow ((((((w.alloc (.cells (cellsOf p) 23)).alloc (.cells (cellsOf c) 23)).plus x1).alloc (.cells (cellsOf S) 3)).plus y2).alloc (.cells (cellsOf (rowTo S a (tabTo S e.toNat (List.replicate (S.length + e.toNat) 0) a) b)) 3)) wr) (fun i _ => e.toNat + 1 - (intOf i).toNat)
            case atStart => exact ⟨0, by omega, rfl, (by repeat (first | exact Grow.refl _ | refine Grow.plus ?_ _ | refine Grow.alloc ?_ _ | refine Grow.drew ?_))⟩
            case round =>
              obtain ⟨b, hb, rfl, y, rfl⟩ := hrel
              have lR := HlR.out a b
              by_cases hbt : b ≤ e.toNat
              · have bs : 0 ≤ gt S a ∧ gt S a ≤ 51520374361 := HB.out a
                have bb : 0 ≤ gt (rowTo S a (tabTo S e.toNat (List.replicate (S.length + e.toNat) 0) a) b) (a + b) ∧ gt (rowTo S a (tabTo S e.toNat (List.replicate (S.length + e.toNat) 0) a) b) (a + b) ≤ 3142742836021 := by
                  have h1 := bS.out a b (a + b) (by omega) (by omega)
                  have ba : ((a : Int) + 1) * 51520374361 ≤ 61 * 51520374361 := Int.mul_le_mul_of_nonneg_right (by omega) (by omega)
                  exact ⟨h1.1, by omega⟩
                have hidx : a + b < S.length + e.toNat := by omega
                go_wp2_with fail
                refine wp_region_order [0, 1, 2, 3, 4, 5, 6, 7, 8, 9, 10, 11] 12 [] (by kernel_rfl) (by kernel_rfl) ?_; simp only [pickO, List.getElem?_cons_zero, List.getElem?_cons_succ]; (repeat (go_big_quiet_step ( fail ))); refine wpQuiet_nil ?_; rintro _ ⟨nx, rfl⟩
                go_wp2_with fail
                go_roundw
                case rel => exact ⟨b + 1, by omega, by go_num, (by repeat (first | exact Grow.refl _ | refine Grow.plus ?_ _ | refine Grow.alloc ?_ _ | refine Grow.drew ?_))⟩
                case measure => simp [intOf]; omega
              · have HR : Hid (b = e.toNat + 1) := by unfold Hid; omega
                go_wp2_with fail
                go_roundw
                case rel => exact ⟨a + 1, by omega, by go_num, by rw [tabTo, ← HR.out]; exact (by repeat (first | exact Grow.refl _ | refine Grow.plus ?_ _ | refine Grow.alloc ?_ _ | refine Grow.drew ?_))⟩
                case measure => simp [intOf]; omega
          · have HA : Hid (tabTo S e.toNat (List.replicate (S.length + e.toNat) 0) a = S1) := by rw [Hid, HT.out, show a = S.length by omega]
            go_wp2_with fail
            go_roundw
            case rel =>
              refine ⟨k + 1, by omega, by go_num, (x1.push (.cells (cellsOf S) 3)).and y2, z, ?_, ?_⟩
              · rw [HS1.out, HKL.out]; simp [Ext.push, Ext.and]
              · rw [HS1.out, ← HA.out, ← plus_plus, ← plus_alloc]
            case measure => simp [intOf]; omega
      · have hfe := HF2.out h5
        go_wp2_with fail
        generalize x2 = y2
        clear hfe
        go_loopw [10, 11] (fun i _ wr => ∃ a : Nat, a ≤ S.length ∧ i = .int .i64 a ∧ Grow ((((((w.alloc (.cells (cellsOf p) 23)).alloc (.cells (cellsOf c) 23)).plus x1).alloc (.cells (cellsOf S) 3)).plus y2).alloc (.cells (cellsOf (tabTo S e.toNat (List.replicate (S.length + e.toNat) 0) a)) 3)) wr) (fun i _ _ => S.length - (intOf i).toNat)
        case atStart => exact ⟨0, by omega, rfl, (by repeat (first | exact Grow.refl _ | refine Grow.plus ?_ _ | refine Grow.alloc ?_ _ | refine Grow.drew ?_))⟩
        case round =>
          obtain ⟨a, ha, rfl, z, rfl⟩ := hrel
          have lT := HlT.out a
          by_cases hat : a < S.length
          · go_wp2_with fail
            go_loopw [11] (fun i wr => ∃ b : Nat, b ≤ e.toNat + 1 ∧ i = .int .i64 b ∧ Grow ((((((w.alloc (.cells (cellsOf p) 23)).alloc (.cells (cellsOf c) 23)).plus x1).alloc (.cells (cellsOf S) 3)).plus y2).alloc (.cells (cellsOf (rowTo S a (tabTo S e.toNat (List.replicate (S.length + e.toNat) 0) a) b)) 3)) wr) (fun i _ => e.toNat + 1 - (intOf i).toNat)
            case atStart => exact ⟨0, by omega, rfl, (by repeat (first | exact Grow.refl _ | refine Grow.plus ?_ _ | refine Grow.alloc ?_ _ | refine Grow.drew ?_))⟩
            case round =>
              obtain ⟨b, hb, rfl, y, rfl⟩ := hrel
              have lR := HlR.out a b
              by_cases hbt : b ≤ e.toNat
              · have bs : 0 ≤ gt S a ∧ gt S a ≤ 51520374361 := HB.out a
                have bb : 0 ≤ gt (rowTo S a (tabTo S e.toNat (List.replicate (S.length + e.toNat) 0) a) b) (a + b) ∧ gt (rowTo S a (tabTo S e.toNat (List.replicate (S.length + e.toNat) 0) a) b) (a + b) ≤ 3142742836021 := by
                  have h1 := bS.out a b (a + b) (by omega) (by omega)
                  have ba : ((a : Int) + 1) * 51520374361 ≤ 61 * 51520374361 := Int.mul_le_mul_of_nonneg_right (by omega) (by omega)
                  exact ⟨h1.1, by omega⟩
                have hidx : a + b < S.length + e.toNat := by omega
                go_wp2_with fail
                refine wp_region_order [0, 1, 2, 3, 4, 5, 6, 7, 8, 9, 10, 11] 12 [] (by kernel_rfl) (by kernel_rfl) ?_; simp only [pickO, List.getElem?_cons_zero, List.getElem?_cons_succ]; (repeat (go_big_quiet_step ( fail ))); refine wpQuiet_nil ?_; rintro _ ⟨nx, rfl⟩
                go_wp2_with fail
                go_roundw
                case rel => exact ⟨b + 1, by omega, by go_num, (by repeat (first | exact Grow.refl _ | refine Grow.plus ?_ _ | refine Grow.alloc ?_ _ | refine Grow.drew ?_))⟩
                case measure => simp [intOf]; omega
              · have HR : Hid (b = e.toNat + 1) := by unfold Hid; omega
                go_wp2_with fail
                go_roundw
                case rel => exact ⟨a + 1, by omega, by go_num, by rw [tabTo, ← HR.out]; exact (by repeat (first | exact Grow.refl _ | refine Grow.plus ?_ _ | refine Grow.alloc ?_ _ | refine Grow.drew ?_))⟩
                case measure => simp [intOf]; omega
          · have HA : Hid (tabTo S e.toNat (List.replicate (S.length + e.toNat) 0) a = S1) := by rw [Hid, HT.out, show a = S.length by omega]
            go_wp2_with fail
            go_roundw
            case rel =>
              refine ⟨k + 1, by omega, by go_num, (x1.push (.cells (cellsOf S) 3)).and y2, z, ?_, ?_⟩
              · rw [HS1.out, HKL.out]; simp [Ext.push, Ext.and]
              · rw [HS1.out, ← HA.out, ← plus_plus, ← plus_alloc]
            case measure => simp [intOf]; omega
    · have HK : Hid (k = 6) := by unfold Hid; omega
      have HW : Hid (gt (sumsTo p c k) (gt c 5).toNat = waysL (backTo p c 6) (gt c 5)) := by
        have := goodL_gt GC.out 5
        rw [Hid, HK.out, (sumsTo_ways p c F.pos 6).1, Int.toNat_of_nonneg this.1]
      have b5 := goodL_gt GC.out 5
      have hi5 : (gt c 5).toNat < (sumsTo p c k).length := by
        rw [HK.out]
        exact last_lt hp hc HC.out F
      go_wp2_with fail
      go_ret2
      exact ⟨by rw [← HW.out]; rfl, (by repeat (first | exact Grow.refl _ | refine Grow.plus ?_ _ | refine Grow.alloc ?_ _ | refine Grow.drew ?_))⟩
end Go.Proofs.Ytondnigiepkobaa
