/-
  The walks of pay.Pay and of the reference's Pay.
-/
import Derived.Test.YtondnigiepkobaaPay2
import Derived.BigRegion
namespace Go.Proofs.Ytondnigiepkobaa
open Go Go.RowKit

set_option maxHeartbeats 800000 in
theorem pay_yes (p c : List Int) (hp : p.length = 6) (hc : c.length = 6) (hcan : canL p c = true) (w : World) :
    Calls Try.prog 8 #[.agg (cellsOf p), .agg (cellsOf c)] w fun e w' => e = .returned (.tuple #[.agg (cellsOf (payL p c).1), .agg (cellsOf (payL p c).2), .nilIface]) ∧ Grow w w' := by
  have gp := (canL_good hcan).1
  have gc := (canL_good hcan).2
  have GP := Lib.hid gp
  have GC := Lib.hid gc
  have HC := Lib.hid hcan
  go_enter Try.func8, Try.ntmps8
  go_wp2_with (first | (go_at_call 19; refine (both_any _ _ hp hc _).mono ?_; rintro e w' ⟨rfl, nx, rfl⟩) | (go_at_call 11; refine (can_any _ _ hp hc _).mono ?_; rintro e w' ⟨rfl, nx, rfl⟩))
  clear gp gc hcan
  go_loopw [7, 26] (fun _ i wr => ∃ k : Nat, k ≤ 5 ∧ i = .int .i64 k ∧ ∃ x, wr = ((((w.alloc (.cells (cellsOf p) 23)).alloc (.cells (cellsOf c) 23)).alloc (.cells (cellsOf (payFree p c k).1) 23)).alloc (.cells (cellsOf (payFree p c k).2) 23)).plus x) (fun _ i _ => 5 - (intOf i).toNat)
  case atStart => exact ⟨0, by omega, rfl, (by first | exact ⟨_, rfl⟩ | exact ⟨_, plus_plus _ _ _⟩ | exact ⟨_, (plus_none _).symm⟩ | exact ⟨_, plus_drew _ _⟩ | exact ⟨_, by rw [plus_plus, plus_plus]⟩)⟩
  case round =>
    obtain ⟨k, hk, rfl, x, rfl⟩ := hrel
    have hl1 := (payFree_len p c hp k).1
    have hl2 := (payFree_len p c hp k).2
    have bd := (fun h : _ ∧ _ ∧ _ ∧ _ ∧ _ => (⟨h.1, h.2.1⟩ : _ ∧ _)) (payFree_bd p c hp GP.out GC.out k k)
    have bc := goodL_gt GC.out k
    by_cases hlt : k < 5
    · go_wp2_with fail
      go_region
      all_goals
        go_wp2_with fail
        go_roundw
        case rel => exact ⟨k + 1, by omega, by go_num, (by first | exact ⟨_, rfl⟩ | exact ⟨_, plus_plus _ _ _⟩ | exact ⟨_, (plus_none _).symm⟩ | exact ⟨_, plus_drew _ _⟩ | exact ⟨_, by rw [plus_plus, plus_plus]⟩)⟩
        case measure => simp [intOf]; omega
    · have HK : Hid (k = 5) := by unfold Hid; omega
      clear bd bc hl1 hl2
      have hn := goodL_gt GC.out 5
      go_wp2_with fail
      go_loopw [8, 46] (fun _ i wr => ∃ m : Nat, m ≤ (gt c 5).toNat ∧ i = .int .i64 m ∧ ∃ x, wr = ((((w.alloc (.cells (cellsOf p) 23)).alloc (.cells (cellsOf c) 23)).alloc (.cells (cellsOf (payN m (payFree p c k)).1) 23)).alloc (.cells (cellsOf (payN m (payFree p c k)).2) 23)).plus x) (fun _ i _ => (gt c 5).toNat - (intOf i).toNat)
      case atStart => exact ⟨0, by omega, rfl, (by first | exact ⟨_, rfl⟩ | exact ⟨_, plus_plus _ _ _⟩ | exact ⟨_, (plus_none _).symm⟩ | exact ⟨_, plus_drew _ _⟩ | exact ⟨_, by rw [plus_plus, plus_plus]⟩)⟩
      case round =>
        obtain ⟨m, hm, rfl, y, rfl⟩ := hrel
        have hl := payFree_len p c hp k
        have hl1 := (payN_len _ hl m).1
        have hl2 := (payN_len _ hl m).2
        have bd := payN_bd _ hl (-1000) 1000 0 1000 (fun i => have := payFree_bd p c hp GP.out GC.out k i; ⟨this.1, this.2.1, this.2.2.1, this.2.2.2.1⟩) m (nextL (payN m (payFree p c k)).1)
        have hx := nextL_lt (payN m (payFree p c k)).1
        clear hl
        by_cases hmt : m < (gt c 5).toNat
        · go_wp2_with (go_at_call 20; refine (next_any _ hl1 _).mono ?_; rintro e w' ⟨rfl, nx, rfl⟩)
          go_roundw
          case rel => exact ⟨m + 1, by omega, by go_num, (by first | exact ⟨_, rfl⟩ | exact ⟨_, plus_plus _ _ _⟩ | exact ⟨_, (plus_none _).symm⟩ | exact ⟨_, plus_drew _ _⟩ | exact ⟨_, by rw [plus_plus, plus_plus]⟩)⟩
          case measure => simp [intOf]; omega
        · have HM : Hid (m = (gt c 5).toNat) := by unfold Hid; omega
          have HL : Hid (payN m (payFree p c k) = payL p c) := by rw [Hid, HM.out, HK.out]; rfl
          go_wp2_with fail
          go_region
          all_goals
            go_wp2_with fail
            refine bodyPost_ret (results_CCt rfl _ _ (w.heap.size + 2) (w.heap.size + 3) rfl rfl ?_ ?_) rfl ?_
            · go_simp
            · go_simp
            · refine ⟨?_, (by repeat (first | exact Grow.refl _ | refine Grow.plus ?_ _ | refine Grow.alloc ?_ _ | refine Grow.drew ?_))⟩
              rw [← HL.out]
              go_simp

set_option maxHeartbeats 800000 in
theorem pay_cant (p c : List Int) (hp : p.length = 6) (hc : c.length = 6) (gp : goodL p = true) (gc : goodL c = true) (hcan : canL p c = false) (w : World) :
    Calls Try.prog 8 #[.agg (cellsOf p), .agg (cellsOf c)] w fun e w' => e = .returned (.tuple #[.agg (cellsOf [0, 0, 0, 0, 0, 0]), .agg (cellsOf [0, 0, 0, 0, 0, 0]), .iface 37 (.int .i64 10)]) ∧ Grow w w' := by
  go_enter Try.func8, Try.ntmps8
  go_wp2_with (first | (go_at_call 19; refine (both_any _ _ hp hc _).mono ?_; rintro e w' ⟨rfl, nx, rfl⟩) | (go_at_call 11; refine (can_any _ _ hp hc _).mono ?_; rintro e w' ⟨rfl, nx, rfl⟩))
  refine bodyPost_ret (results_CCt rfl _ _ (w.heap.size + 2) (w.heap.size + 3) rfl rfl ?_ ?_) rfl ?_
  · go_simp
  · go_simp
  · exact ⟨by go_simp, (by repeat (first | exact Grow.refl _ | refine Grow.plus ?_ _ | refine Grow.alloc ?_ _ | refine Grow.drew ?_))⟩

set_option maxHeartbeats 800000 in
theorem pay_bad (p c : List Int) (hp : p.length = 6) (hc : c.length = 6) (hg : (goodL p && goodL c) = false) (w : World) :
    Calls Try.prog 8 #[.agg (cellsOf p), .agg (cellsOf c)] w fun e w' => e = .returned (.tuple #[.agg (cellsOf [0, 0, 0, 0, 0, 0]), .agg (cellsOf [0, 0, 0, 0, 0, 0]), .iface 37 (.int .i64 2)]) ∧ Grow w w' := by
  go_enter Try.func8, Try.ntmps8
  go_wp2_with (first | (go_at_call 19; refine (both_any _ _ hp hc _).mono ?_; rintro e w' ⟨rfl, nx, rfl⟩) | (go_at_call 11; refine (can_any _ _ hp hc _).mono ?_; rintro e w' ⟨rfl, nx, rfl⟩))
  refine bodyPost_ret (results_CCt rfl _ _ (w.heap.size + 2) (w.heap.size + 3) rfl rfl ?_ ?_) rfl ?_
  · go_simp
  · go_simp
  · exact ⟨by go_simp, (by repeat (first | exact Grow.refl _ | refine Grow.plus ?_ _ | refine Grow.alloc ?_ _ | refine Grow.drew ?_))⟩
end Go.Proofs.Ytondnigiepkobaa
