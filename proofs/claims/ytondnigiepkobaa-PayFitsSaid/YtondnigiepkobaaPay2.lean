/-
  The walks of pay.Can, pay.Pay and of the references' Can and Pay.
-/
import Derived.Test.YtondnigiepkobaaPay
import Derived.Test.YtondnigiepkobaaTail
namespace Go.Proofs.Ytondnigiepkobaa
open Go Go.RowKit

theorem all_succ {q : Nat → Prop} {k : Nat} (h : ∀ j, j < k → q j) (hk : q k) : ∀ j, j < k + 1 → q j := fun j hj => by
  rcases Nat.lt_or_ge j k with h' | h'
  · exact h j h'
  · obtain rfl : j = k := by omega
    exact hk
theorem and_parts {a b : Bool} (h : (a && b) = true) : a = true ∧ b = true := by simpa using h

set_option maxHeartbeats 800000 in
theorem can_any (p c : List Int) (hp : p.length = 6) (hc : c.length = 6) (w : World) :
    Calls Try.prog 11 #[.agg (cellsOf p), .agg (cellsOf c)] w fun e w' => e = .returned (.bool (canL p c)) ∧ Grow w w' := by
  by_cases hg : (goodL p && goodL c) = true
  · have GP := Lib.hid (and_parts hg).1
    have GC := Lib.hid (and_parts hg).2
    by_cases hs : p.sum < c.sum
    · go_enter Try.func11, Try.ntmps11
      go_wp2_with fail
      refine wp_region_grow (by kernel_rfl) (by kernel_rfl) ?_; (repeat (go_big_quiet_step ( first | (go_at_call 19; refine Calls.grow (both_any _ _ hp hc _)) | (go_at_call 21; refine Calls.grow (total_any _ (by assumption) ?_ _); first | exact GP.out | exact GC.out) ))); refine wpQuiet_nil ?_; rintro _ ⟨nx, rfl⟩
      go_wp2_with fail
      go_ret
      exact ⟨ret_bool (canL_sum (by omega)).symm, (by repeat (first | exact Grow.refl _ | refine Grow.plus ?_ _ | refine Grow.alloc ?_ _ | refine Grow.drew ?_))⟩
    · go_enter Try.func11, Try.ntmps11
      go_wp2_with fail
      refine wp_region_grow (by kernel_rfl) (by kernel_rfl) ?_; (repeat (go_big_quiet_step ( first | (go_at_call 19; refine Calls.grow (both_any _ _ hp hc _)) | (go_at_call 21; refine Calls.grow (total_any _ (by assumption) ?_ _); first | exact GP.out | exact GC.out) ))); refine wpQuiet_nil ?_; rintro _ ⟨nx, rfl⟩
      go_wp2_with fail
      clear hg
      go_loopw [5, 17] (fun _ i wr => ∃ k : Nat, k ≤ 5 ∧ i = .int .i64 k ∧ Hid (∀ j, j < k → gt c j ≤ gt p j) ∧ ∃ x, wr = ((w.alloc (.cells (cellsOf p) 23)).alloc (.cells (cellsOf c) 23)).plus x) (fun _ i _ => 5 - (intOf i).toNat)
      case atStart => exact ⟨0, by omega, rfl, fun j hj => by omega, (by first | exact ⟨_, rfl⟩ | exact ⟨_, plus_plus _ _ _⟩ | exact ⟨_, (plus_none _).symm⟩ | exact ⟨_, plus_drew _ _⟩ | exact ⟨_, by rw [plus_plus, plus_plus]⟩)⟩
      case round =>
        obtain ⟨k, hk, rfl, hle, x, rfl⟩ := hrel
        by_cases hlt : k < 5
        · by_cases hcmp : gt p k < gt c k
          · go_wp2_with fail
            refine wp_region_grow (by kernel_rfl) (by kernel_rfl) ?_; (repeat (go_big_quiet_step ( fail ))); refine wpQuiet_nil ?_; rintro _ ⟨nx, rfl⟩
            go_wp2_with fail
            go_ret
            exact ⟨ret_bool (canL_at k (by omega) (by omega)).symm, (by repeat (first | exact Grow.refl _ | refine Grow.plus ?_ _ | refine Grow.alloc ?_ _ | refine Grow.drew ?_))⟩
          · go_wp2_with fail
            refine wp_region_grow (by kernel_rfl) (by kernel_rfl) ?_; (repeat (go_big_quiet_step ( fail ))); refine wpQuiet_nil ?_; rintro _ ⟨nx, rfl⟩
            go_wp2_with fail
            go_roundw
            case rel => exact ⟨k + 1, by omega, by go_num, all_succ hle.out (by omega), (by first | exact ⟨_, rfl⟩ | exact ⟨_, plus_plus _ _ _⟩ | exact ⟨_, (plus_none _).symm⟩ | exact ⟨_, plus_drew _ _⟩ | exact ⟨_, by rw [plus_plus, plus_plus]⟩)⟩
            case measure => simp [intOf]; omega
        · go_wp2
          obtain rfl : k = 5 := by omega
          go_ret
          exact ⟨ret_bool (canL_yes GP.out GC.out (by omega) hle.out).symm, (by repeat (first | exact Grow.refl _ | refine Grow.plus ?_ _ | refine Grow.alloc ?_ _ | refine Grow.drew ?_))⟩
  · have hg' : (goodL p && goodL c) = false := by simpa using hg
    go_enter Try.func11, Try.ntmps11
    go_wp2_with fail
    refine wp_region_grow (by kernel_rfl) (by kernel_rfl) ?_; (repeat (go_big_quiet_step ( first | (go_at_call 19; refine Calls.grow (both_any _ _ hp hc _)) ))); refine wpQuiet_nil ?_; rintro _ ⟨nx, rfl⟩
    go_wp2_with fail
    go_ret
    exact ⟨ret_bool (by rw [canL, hg']; rfl), (by repeat (first | exact Grow.refl _ | refine Grow.plus ?_ _ | refine Grow.alloc ?_ _ | refine Grow.drew ?_))⟩

set_option maxHeartbeats 800000 in
theorem refCan_any (p c : List Int) (hp : p.length = 6) (hc : c.length = 6) (w : World) :
    Calls Try.prog 12 #[.agg (cellsOf p), .agg (cellsOf c)] w fun e w' => e = .returned (.bool (canL p c)) ∧ Grow w w' := by
  by_cases hg : (goodL p && goodL c) = true
  · have gp := (and_parts hg).1
    have gc := (and_parts hg).2
    have GP := Lib.hid gp
    have GC := Lib.hid gc
    go_enter Try.func12, Try.ntmps12
    go_wp2_with (go_at_call 14; refine (refGood_any _ (by assumption) _).mono ?_; rintro e w' ⟨rfl, nx, rfl⟩)
    clear gp gc hg
    go_loopw [5, 6] (fun o i wr => ∃ k : Nat, k ≤ 5 ∧ i = .int .i64 k ∧ o = .int .i64 (overL p c k) ∧ Hid (∀ j, j < k → gt c j ≤ gt p j) ∧ ∃ x, wr = ((w.alloc (.cells (cellsOf p) 23)).alloc (.cells (cellsOf c) 23)).plus x) (fun _ i _ => 5 - (intOf i).toNat)
    case atStart => exact ⟨0, by omega, rfl, rfl, fun j hj => by omega, (by first | exact ⟨_, rfl⟩ | exact ⟨_, plus_plus _ _ _⟩ | exact ⟨_, (plus_none _).symm⟩ | exact ⟨_, plus_drew _ _⟩ | exact ⟨_, by rw [plus_plus, plus_plus]⟩)⟩
    case round =>
      obtain ⟨k, hk, rfl, rfl, hle, x, rfl⟩ := hrel
      have b1 := overL_bd GP.out GC.out k
      have b2 := goodL_gt GP.out k
      have b3 := goodL_gt GC.out k
      by_cases hlt : k < 5
      · by_cases hcmp : gt p k < gt c k
        · go_wp2_with fail
          refine wp_region_grow (by kernel_rfl) (by kernel_rfl) ?_; (repeat (go_big_quiet_step ( fail ))); refine wpQuiet_nil ?_; rintro _ ⟨nx, rfl⟩
          go_wp2_with fail
          go_ret
          exact ⟨ret_bool (canL_at k (by omega) (by omega)).symm, (by repeat (first | exact Grow.refl _ | refine Grow.plus ?_ _ | refine Grow.alloc ?_ _ | refine Grow.drew ?_))⟩
        · go_wp2_with fail
          refine wp_region_grow (by kernel_rfl) (by kernel_rfl) ?_; (repeat (go_big_quiet_step ( fail ))); refine wpQuiet_nil ?_; rintro _ ⟨nx, rfl⟩
          go_wp2_with fail
          refine wp_region_grow (by kernel_rfl) (by kernel_rfl) ?_; (repeat (go_big_quiet_step ( fail ))); refine wpQuiet_nil ?_; rintro _ ⟨nx, rfl⟩
          go_wp2_with fail
          go_roundw
          case rel => exact ⟨k + 1, by omega, by go_num, rfl, all_succ hle.out (by omega), (by first | exact ⟨_, rfl⟩ | exact ⟨_, plus_plus _ _ _⟩ | exact ⟨_, (plus_none _).symm⟩ | exact ⟨_, plus_drew _ _⟩ | exact ⟨_, by rw [plus_plus, plus_plus]⟩)⟩
          case measure => simp [intOf]; omega
      · go_wp2
        obtain rfl : k = 5 := by omega
        go_ret
        refine ⟨ret_bool ?_, (by repeat (first | exact Grow.refl _ | refine Grow.plus ?_ _ | refine Grow.alloc ?_ _ | refine Grow.drew ?_))⟩
        have h5 := overL_five p c hp hc
        by_cases hs : c.sum ≤ p.sum
        · rw [canL_yes GP.out GC.out hs hle.out]; simpa [hs] using h5
        · rw [canL_sum hs]; simpa [hs] using h5
  · have hg' : (goodL p && goodL c) = false := by simpa using hg
    cases gp : goodL p <;> cases gc : goodL c <;> first | (rw [gp, gc] at hg'; cases hg'; done) | skip
    all_goals
      go_enter Try.func12, Try.ntmps12
      go_wp2_with (go_at_call 14; refine (refGood_any _ (by assumption) _).mono ?_; rintro e w' ⟨rfl, nx, rfl⟩)
      go_ret
      exact ⟨ret_bool (by simp [canL, gp, gc]), (by repeat (first | exact Grow.refl _ | refine Grow.plus ?_ _ | refine Grow.alloc ?_ _ | refine Grow.drew ?_))⟩
end Go.Proofs.Ytondnigiepkobaa
