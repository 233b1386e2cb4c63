/-
  The walk of the reference's Pay.
-/
import Derived.Test.YtondnigiepkobaaPay3
namespace Go.Proofs.Ytondnigiepkobaa
open Go Go.RowKit

set_option maxHeartbeats 1600000 in
theorem refPay_yes (p c : List Int) (hp : p.length = 6) (hc : c.length = 6) (hcan : canL p c = true) (w : World) :
    Calls Try.prog 9 #[.agg (cellsOf p), .agg (cellsOf c)] w fun e w' => e = .returned (.tuple #[.agg (cellsOf (lessTo p (refPaid p c) 6)), .agg (cellsOf (refPaid p c)), .int .i64 0]) ∧ Grow w w' := by
  have gp := (canL_good hcan).1
  have gc := (canL_good hcan).2
  have GP := Lib.hid gp
  have GC := Lib.hid gc
  go_enter Try.func9, Try.ntmps9
  go_wp2_with fail
  refine (refGood_any p hp _).mono ?_
  rintro e w' ⟨rfl, n1, rfl⟩
  go_wp2_with fail
  refine (refGood_any c hc _).mono ?_
  rintro e w' ⟨rfl, n2, rfl⟩
  go_wp2_with fail
  refine (refCan_any p c hp hc _).mono ?_
  rintro e w' ⟨rfl, n3, rfl⟩
  go_wp2_with fail
  clear gp gc hcan
  have hn := goodL_gt GC.out 5
  have hq0 : (c.set 5 0).length = 6 := by simp [hc]
  have HB := Lib.hid (refN_bd p (c.set 5 0) hq0 (fun i => by have := goodL_gt GC.out i; rw [gt_set _ _ _ _ (by omega)]; split <;> omega))
  have HP := Lib.hid (fun i => goodL_gt GP.out i)
  have HL : ∀ n, (refN p n (c.set 5 0)).length = 6 := fun n => by rw [refN_len, hq0]
  clear hq0
  have HLen := Lib.hid HL
  clear HL
  go_loopw [8, 9, 10, 11] (fun i _ _ _ wr => ∃ k : Nat, k ≤ (gt c 5).toNat ∧ i = .int .i64 (gt c 5 - k) ∧ ∃ x, wr = ((((((w.alloc (.cells (cellsOf p) 23)).alloc (.cells (cellsOf c) 23)).alloc (.cells (cellsOf [0, 0, 0, 0, 0, 0]) 23)).alloc (.cells (cellsOf [0, 0, 0, 0, 0, 0]) 23)).plus ((n1.and n2).and n3)).alloc (.cells (cellsOf (refN p k (c.set 5 0))) 23)).plus x) (fun i _ _ _ _ => (intOf i).toNat)
  case atStart => exact ⟨0, by omega, by go_num, (by first | exact ⟨_, rfl⟩ | exact ⟨_, plus_plus _ _ _⟩ | exact ⟨_, (plus_none _).symm⟩ | exact ⟨_, plus_drew _ _⟩ | exact ⟨_, by rw [plus_plus, plus_plus]⟩)⟩
  case round =>
    obtain ⟨k, hk, rfl, x, rfl⟩ := hrel
    by_cases hlt : k < (gt c 5).toNat
    · generalize hq : refN p k (c.set 5 0) = q
      have HS : Hid (refN p (k + 1) (c.set 5 0) = refStep p q) := by rw [Hid, refN, hq]
      have hl : q.length = 6 := by rw [← hq]; exact HLen.out k
      have Hb : Hid (∀ i, 0 ≤ gt q i ∧ gt q i ≤ 2000) := fun i => by have := HB.out k i; rw [hq] at this; omega
      clear hq
      have b5 := Hb.out 5
      have a5 := HP.out 5
      by_cases h5 : gt q 5 < gt p 5
      · go_wp2_with fail
        go_roundw
        case rel => exact ⟨k + 1, by omega, by go_num, x, by rw [HS.out, refStep, if_pos h5]⟩
        case measure => simp [intOf]; omega
      · go_wp2_with fail
        go_loopw [9, 10] (fun m i wr => ∃ j : Nat, j ≤ 5 ∧ i = .int .i64 j ∧ m = .int .i64 (mostTo p q j) ∧ ∃ x, wr = ((((((w.alloc (.cells (cellsOf p) 23)).alloc (.cells (cellsOf c) 23)).alloc (.cells (cellsOf [0, 0, 0, 0, 0, 0]) 23)).alloc (.cells (cellsOf [0, 0, 0, 0, 0, 0]) 23)).plus ((n1.and n2).and n3)).alloc (.cells (cellsOf q) 23)).plus x) (fun _ i _ => 5 - (intOf i).toNat)
        case atStart => exact ⟨0, by omega, rfl, rfl, (by first | exact ⟨_, rfl⟩ | exact ⟨_, plus_plus _ _ _⟩ | exact ⟨_, (plus_none _).symm⟩ | exact ⟨_, plus_drew _ _⟩ | exact ⟨_, by rw [plus_plus, plus_plus]⟩)⟩
        case round =>
          obtain ⟨j, hj, rfl, rfl, y, rfl⟩ := hrel
          have bm := mostTo_bd p q (-2000) 1000 (by omega) (fun i => by have := Hb.out i; have := HP.out i; omega)
          by_cases hjt : j < 5
          · have bj := Hb.out j
            have aj := HP.out j
            have bmj := bm j
            clear bm
            go_wp2_with fail
            refine wp_region_grow (by kernel_rfl) (by kernel_rfl) ?_; (repeat (go_big_quiet_step ( fail ))); refine wpQuiet_nil ?_; rintro _ ⟨nx, rfl⟩
            go_wp2_with fail
            go_roundw
            case rel => exact ⟨j + 1, by omega, by go_num, rfl, (by first | exact ⟨_, rfl⟩ | exact ⟨_, plus_plus _ _ _⟩ | exact ⟨_, (plus_none _).symm⟩ | exact ⟨_, plus_drew _ _⟩ | exact ⟨_, by rw [plus_plus, plus_plus]⟩)⟩
            case measure => simp [intOf]; omega
          · have bm5 := bm 5
            clear bm
            have HJ : Hid (j = 5) := by unfold Hid; omega
            go_wp2_with fail
            go_loopw [11] (fun i wr => ∃ v : Nat, v ≤ 5 ∧ i = .int .i64 v ∧ Hid (seekAt p q (mostTo p q 5) 5 0 = seekAt p q (mostTo p q 5) (5 - v) v) ∧ ∃ x, wr = ((((((w.alloc (.cells (cellsOf p) 23)).alloc (.cells (cellsOf c) 23)).alloc (.cells (cellsOf [0, 0, 0, 0, 0, 0]) 23)).alloc (.cells (cellsOf [0, 0, 0, 0, 0, 0]) 23)).plus ((n1.and n2).and n3)).alloc (.cells (cellsOf q) 23)).plus x) (fun i _ => 5 - (intOf i).toNat)
            case atStart => exact ⟨0, by omega, rfl, rfl, (by first | exact ⟨_, rfl⟩ | exact ⟨_, plus_plus _ _ _⟩ | exact ⟨_, (plus_none _).symm⟩ | exact ⟨_, plus_drew _ _⟩ | exact ⟨_, by rw [plus_plus, plus_plus]⟩)⟩
            case round =>
              obtain ⟨v, hv, rfl, hsk, z, rfl⟩ := hrel
              by_cases hvt : v < 5
              · have bv := Hb.out v
                have av := HP.out v
                obtain ⟨f, hf⟩ : ∃ f, 5 - v = f + 1 := ⟨4 - v, by omega⟩
                rw [hf] at hsk
                have Hf := Lib.hid hf
                clear hf
                by_cases he : gt p v - gt q v = mostTo p q j
                · have HE := Lib.hid he
                  have hb : ((gt p v - gt q v == mostTo p q j) = true) := by rw [he]; simp
                  clear he
                  go_wp2_with fail
                  refine wp_region_grow (by kernel_rfl) (by kernel_rfl) ?_; (repeat (go_big_quiet_step ( fail ))); refine wpQuiet_nil ?_; rintro _ ⟨nx, rfl⟩
                  go_wp2_with fail
                  go_roundw
                  case rel =>
                    refine ⟨k + 1, by omega, by go_num, z.and nx, ?_⟩
                    have e1 : mostTo p q j = mostTo p q 5 := by rw [HJ.out]
                    have h7 := hsk.out.trans (seekAt_hit _ _ _ f v (by rw [← e1]; exact HE.out))
                    rw [HS.out, refStep, if_neg (by omega), h7]
                  case measure => simp [intOf]; omega
                · have hb : ((gt p v - gt q v == mostTo p q j) = false) := by simpa using he
                  have HE := Lib.hid he
                  clear he
                  go_wp2_with fail
                  refine wp_region_grow (by kernel_rfl) (by kernel_rfl) ?_; (repeat (go_big_quiet_step ( fail ))); refine wpQuiet_nil ?_; rintro _ ⟨nx, rfl⟩
                  go_wp2_with fail
                  go_roundw
                  case rel =>
                    refine ⟨v + 1, by omega, by go_num, ?_, (by first | exact ⟨_, rfl⟩ | exact ⟨_, plus_plus _ _ _⟩ | exact ⟨_, (plus_none _).symm⟩ | exact ⟨_, plus_drew _ _⟩ | exact ⟨_, by rw [plus_plus, plus_plus]⟩)⟩
                    have e1 : mostTo p q j = mostTo p q 5 := by rw [HJ.out]
                    have h7 := hsk.out.trans (seekAt_miss _ _ _ f v (by rw [← e1]; exact HE.out))
                    rw [Hid, h7, show 5 - (v + 1) = f by have := Hf.out; omega]
                  case measure => simp [intOf]; omega
              · have HV : Hid (v = 5) := by unfold Hid; omega
                go_wp2_with fail
                go_roundw
                case rel =>
                  refine ⟨k + 1, by omega, by go_num, z, ?_⟩
                  have h7 := hsk.out
                  rw [HV.out] at h7
                  rw [HS.out, refStep, if_neg (by omega), h7]
                  rfl
                case measure => simp [intOf]; omega
    · have HK : Hid (refN p k (c.set 5 0) = refPaid p c) := by rw [Hid, refPaid]; congr 1; omega
      have hl := HLen.out k
      have HB' := Lib.hid (HB.out k)
      go_wp2_with fail
      go_loopw [13] (fun i wr => ∃ v : Nat, v ≤ 6 ∧ i = .int .i64 v ∧ ∃ y, wr = (((((((((w.alloc (.cells (cellsOf p) 23)).alloc (.cells (cellsOf c) 23)).alloc (.cells (cellsOf [0, 0, 0, 0, 0, 0]) 23)).alloc (.cells (cellsOf [0, 0, 0, 0, 0, 0]) 23)).plus ((n1.and n2).and n3)).alloc (.cells (cellsOf (refN p k (c.set 5 0))) 23)).plus x).alloc (.cells (cellsOf (lessTo p (refN p k (c.set 5 0)) v)) 23)).plus y)) (fun i _ => 6 - (intOf i).toNat)
      case atStart => exact ⟨0, by omega, rfl, (by first | exact ⟨_, rfl⟩ | exact ⟨_, plus_plus _ _ _⟩ | exact ⟨_, (plus_none _).symm⟩ | exact ⟨_, plus_drew _ _⟩ | exact ⟨_, by rw [plus_plus, plus_plus]⟩)⟩
      case round =>
        obtain ⟨v, hv, rfl, z, rfl⟩ := hrel
        have hl2 := lessTo_len p (refN p k (c.set 5 0)) v
        have bv := HB'.out v
        have av := HP.out v
        by_cases hvt : v < 6
        · go_wp2_with fail
          refine wp_region_order [0, 1, 2, 3, 4, 5, 6, 7, 8] 9 [] (by kernel_rfl) (by kernel_rfl) ?_; simp only [pickO, List.getElem?_cons_zero, List.getElem?_cons_succ]; (repeat (go_big_quiet_step ( fail ))); refine wpQuiet_nil ?_; rintro _ ⟨nx, rfl⟩
          go_wp2_with fail
          go_roundw
          case rel => exact ⟨v + 1, by omega, by go_num, (by first | exact ⟨_, rfl⟩ | exact ⟨_, plus_plus _ _ _⟩ | exact ⟨_, (plus_none _).symm⟩ | exact ⟨_, plus_drew _ _⟩ | exact ⟨_, by rw [plus_plus, plus_plus]⟩)⟩
          case measure => simp [intOf]; omega
        · have HV : Hid (lessTo p (refN p k (c.set 5 0)) v = lessTo p (refPaid p c) 6) := by rw [Hid, HK.out, show v = 6 by omega]
          go_wp2_with fail
          go_region
          all_goals
            go_wp2_with fail
            refine bodyPost_ret (results_CCt rfl _ _ (w.heap.size + 2) (w.heap.size + 3) rfl rfl ?_ ?_) rfl ?_
            · go_simp
            · go_simp
            · refine ⟨?_, (by repeat (first | exact Grow.refl _ | refine Grow.plus ?_ _ | refine Grow.alloc ?_ _ | refine Grow.drew ?_))⟩
              rw [← HV.out, ← HK.out]
              go_simp

set_option maxHeartbeats 800000 in
theorem refPay_cant (p c : List Int) (hp : p.length = 6) (hc : c.length = 6) (gp : goodL p = true) (gc : goodL c = true) (hcan : canL p c = false) (w : World) :
    Calls Try.prog 9 #[.agg (cellsOf p), .agg (cellsOf c)] w fun e w' => e = .returned (.tuple #[.agg (cellsOf [0, 0, 0, 0, 0, 0]), .agg (cellsOf [0, 0, 0, 0, 0, 0]), .int .i64 10]) ∧ Grow w w' := by
  go_enter Try.func9, Try.ntmps9
  go_wp2_with (first | (go_at_call 14; refine (refGood_any _ (by assumption) _).mono ?_; rintro e w' ⟨rfl, nx, rfl⟩) | (go_at_call 12; refine (refCan_any _ _ hp hc _).mono ?_; rintro e w' ⟨rfl, nx, rfl⟩))
  refine bodyPost_ret (results_CCt rfl _ _ (w.heap.size + 2) (w.heap.size + 3) rfl rfl ?_ ?_) rfl ?_
  · go_simp
  · go_simp
  · exact ⟨by go_simp, (by repeat (first | exact Grow.refl _ | refine Grow.plus ?_ _ | refine Grow.alloc ?_ _ | refine Grow.drew ?_))⟩

set_option maxHeartbeats 800000 in
theorem refPay_bad (p c : List Int) (hp : p.length = 6) (hc : c.length = 6) (hg : (goodL p && goodL c) = false) (w : World) :
    Calls Try.prog 9 #[.agg (cellsOf p), .agg (cellsOf c)] w fun e w' => e = .returned (.tuple #[.agg (cellsOf [0, 0, 0, 0, 0, 0]), .agg (cellsOf [0, 0, 0, 0, 0, 0]), .int .i64 2]) ∧ Grow w w' := by
  cases gp : goodL p <;> cases gc : goodL c <;> first | (rw [gp, gc] at hg; cases hg; done) | skip
  all_goals
    go_enter Try.func9, Try.ntmps9
    go_wp2_with (first | (go_at_call 14; refine (refGood_any _ (by assumption) _).mono ?_; rintro e w' ⟨rfl, nx, rfl⟩))
    refine bodyPost_ret (results_CCt rfl _ _ (w.heap.size + 2) (w.heap.size + 3) rfl rfl ?_ ?_) rfl ?_
    · go_simp
    · go_simp
    · exact ⟨by go_simp, (by repeat (first | exact Grow.refl _ | refine Grow.plus ?_ _ | refine Grow.alloc ?_ _ | refine Grow.drew ?_))⟩
end Go.Proofs.Ytondnigiepkobaa
