/-
  The walks of package pay and of what it calls, but for the counting of ways.
-/
import Derived.Test.YtondnigiepkobaaCost
import Derived.Test.YtondnigiepkobaaPayMath
namespace Go.Proofs.Ytondnigiepkobaa
open Go Go.RowKit

theorem ret_bool {a b : Bool} (h : a = b) : Ending.returned (.bool a) = .returned (.bool b) := by rw [h]
theorem ret_int {k : IntKind} {a b : Int} (h : a = b) : Ending.returned (.int k a) = .returned (.int k b) := by rw [h]

set_option maxHeartbeats 400000 in
theorem refGood_any (c : List Int) (hl : c.length = 6) (w : World) :
    Calls Try.prog 14 #[.agg (cellsOf c)] w fun e w' => e = .returned (.bool (goodL c)) ∧ Grow w w' := by
  go_enter Try.func14, Try.ntmps14
  go_wp2
  go_loop [3] (fun i => ∃ k : Nat, k ≤ 6 ∧ i = .int .i64 k ∧ Hid (goodL (c.take k) = true)) (fun i => 6 - (intOf i).toNat)
  case atStart => exact ⟨0, by omega, rfl, rfl⟩
  case round =>
    obtain ⟨k, hk, rfl, hg⟩ := hrel
    by_cases hlt : k < 6
    · by_cases h0 : gt c k < 0
      · go_wp2
        go_ret
        exact ⟨ret_bool (goodL_bad k (by simp [goodN]; omega)).symm, (by repeat (first | exact Grow.refl _ | refine Grow.plus ?_ _ | refine Grow.alloc ?_ _ | refine Grow.drew ?_))⟩
      · by_cases h1 : 1000 < gt c k
        · go_wp2
          go_ret
          exact ⟨ret_bool (goodL_bad k (by simp [goodN]; omega)).symm, (by repeat (first | exact Grow.refl _ | refine Grow.plus ?_ _ | refine Grow.alloc ?_ _ | refine Grow.drew ?_))⟩
        · go_wp2
          go_round
          case rel => exact ⟨k + 1, by omega, by go_num, by rw [Hid, goodL_snoc c k (by omega), hg.out]; simp [goodN]; omega⟩
          case measure => simp [intOf]; omega
    · go_wp2
      go_ret
      exact ⟨ret_bool (by have := hg.out; rw [List.take_of_length_le (by omega)] at this; exact this.symm), (by repeat (first | exact Grow.refl _ | refine Grow.plus ?_ _ | refine Grow.alloc ?_ _ | refine Grow.drew ?_))⟩

set_option maxHeartbeats 400000 in
theorem goodFn_any (x : Int) (w : World) :
    Calls Try.prog 27 #[.int .i64 x] w fun e w' => e = .returned (.bool (!goodN x)) ∧ w = w' := by
  by_cases h0 : x < 0
  · go_enter Try.func27, Try.ntmps27
    go_wp2
    go_ret
    exact ⟨ret_bool (by simp [goodN]; omega), rfl⟩
  · by_cases h1 : 1000 < x
    all_goals
      go_enter Try.func27, Try.ntmps27
      go_wp2
      go_ret
      exact ⟨ret_bool (by simp [goodN]; omega), rfl⟩

set_option maxHeartbeats 400000 in
theorem idxGood_any (c : List Int) (b cap : Nat) (hl : c.length = 6) (w : World) (hb : ∀ i, i < 6 → w.cell? ⟨b, i, none⟩ = some (.int .i64 (gt c i))) :
    Calls Try.prog 28 #[.slice (some ⟨b, 0, none⟩) 6 cap, .func (.func 27) #[] #[]] w fun e w' => e = .returned (.int .i64 (idxF (fun x => !goodN x) c)) ∧ w = w' := by
  go_enter Try.func28, Try.ntmps28
  go_wp2
  go_loop [8] (fun i => ∃ k : Nat, k ≤ 6 ∧ i = .int .i64 k ∧ Hid ((c.take k).any (fun x => !goodN x) = false)) (fun i => 6 - (intOf i).toNat)
  case atStart => exact ⟨0, by omega, rfl, rfl⟩
  case round =>
    obtain ⟨k, hk, rfl, hg⟩ := hrel
    by_cases hlt : k < 6
    · go_wp2_with (go_at_call 27; refine (goodFn_any _ _).mono ?_; rintro e w' ⟨rfl, rfl⟩)
      · go_ret
        exact ⟨ret_int (idxF_hit _ _ k (by omega) hg.out (by assumption)).symm, rfl⟩
      · have hx : (!goodN (gt c k)) = false := by assumption
        go_round
        case rel => exact ⟨k + 1, by omega, by go_num, by rw [Hid, any_snoc _ c k (by omega), hg.out, hx]; rfl⟩
        case measure => simp [intOf]; omega
    · go_wp2
      go_ret
      exact ⟨ret_int (by have := hg.out; rw [List.take_of_length_le (by omega)] at this; exact (idxF_none _ _ this).symm), rfl⟩

set_option maxHeartbeats 400000 in
theorem hasGood_any (c : List Int) (b cap : Nat) (hl : c.length = 6) (w : World) (hb : ∀ i, i < 6 → w.cell? ⟨b, i, none⟩ = some (.int .i64 (gt c i))) :
    Calls Try.prog 26 #[.slice (some ⟨b, 0, none⟩) 6 cap, .func (.func 27) #[] #[]] w fun e w' => e = .returned (.bool (c.any fun x => !goodN x)) ∧ w = w' := by
  go_enter Try.func26, Try.ntmps26
  go_wp2_with (go_at_call 28; refine (idxGood_any c b cap hl _ hb).mono ?_; rintro e w' ⟨rfl, rfl⟩)
  go_ret
  exact ⟨ret_bool (by have := idxF_any (fun x => !goodN x) c; simpa using this), rfl⟩

theorem not_any_good (c : List Int) : (!(c.any fun x => !goodN x)) = goodL c := by
  unfold goodL; rw [List.not_any_eq_all_not]; simp

set_option maxHeartbeats 400000 in
theorem good_any (c : List Int) (hl : c.length = 6) (w : World) :
    Calls Try.prog 25 #[.agg (cellsOf c)] w fun e w' => e = .returned (.bool (goodL c)) ∧ Grow w w' := by
  go_enter Try.func25, Try.ntmps25
  go_wp2_with (go_at_call 26; refine (hasGood_any c _ _ hl _ ?_).mono ?_; (intro i hi; go_simp); rintro e w' ⟨rfl, rfl⟩)
  go_ret
  exact ⟨ret_bool (not_any_good c), (by repeat (first | exact Grow.refl _ | refine Grow.plus ?_ _ | refine Grow.alloc ?_ _ | refine Grow.drew ?_))⟩

set_option maxHeartbeats 400000 in
theorem total_any (c : List Int) (hl : c.length = 6) (hg : goodL c = true) (w : World) :
    Calls Try.prog 21 #[.agg (cellsOf c)] w fun e w' => e = .returned (.int .i64 c.sum) ∧ Grow w w' := by
  have HG := Lib.hid hg
  clear hg
  go_enter Try.func21, Try.ntmps21
  go_wp2
  go_loop [3, 7] (fun s i => ∃ k : Nat, k ≤ 6 ∧ i = .int .i64 k ∧ s = .int .i64 (c.take k).sum) (fun _ i => 6 - (intOf i).toNat)
  case atStart => exact ⟨0, by omega, rfl, rfl⟩
  case round =>
    obtain ⟨k, hk, rfl, rfl⟩ := hrel
    by_cases hlt : k < 6
    · have h1 := sum_take_bd HG.out k (by omega)
      have h2 := goodL_gt HG.out k
      go_wp2
      go_round
      case rel => exact ⟨k + 1, by omega, by go_num, by rw [sum_snoc c k (by omega)]⟩
      case measure => simp [intOf]; omega
    · go_wp2
      go_ret
      exact ⟨ret_int (by rw [List.take_of_length_le (by omega)]), (by repeat (first | exact Grow.refl _ | refine Grow.plus ?_ _ | refine Grow.alloc ?_ _ | refine Grow.drew ?_))⟩

set_option maxHeartbeats 400000 in
theorem both_any (p c : List Int) (hp : p.length = 6) (hc : c.length = 6) (w : World) :
    Calls Try.prog 19 #[.agg (cellsOf p), .agg (cellsOf c)] w fun e w' => e = .returned (.bool (goodL p && goodL c)) ∧ Grow w w' := by
  cases gp : goodL p <;> cases gc : goodL c
  all_goals
    go_enter Try.func19, Try.ntmps19
    go_wp2_with (go_at_call 25; refine (good_any _ (by assumption) _).mono ?_; rintro e w' ⟨rfl, nx, rfl⟩)
    go_ret
    exact ⟨rfl, (by repeat (first | exact Grow.refl _ | refine Grow.plus ?_ _ | refine Grow.alloc ?_ _ | refine Grow.drew ?_))⟩

set_option maxHeartbeats 400000 in
theorem next_any (r : List Int) (hr : r.length = 6) (w : World) :
    Calls Try.prog 20 #[.agg (cellsOf r)] w fun e w' => e = .returned (.int .i64 (nextL r)) ∧ Grow w w' := by
  by_cases h5 : 0 < gt r 5
  · go_enter Try.func20, Try.ntmps20
    go_wp2
    go_ret
    exact ⟨ret_int (by rw [nextL, if_pos h5]; rfl), (by repeat (first | exact Grow.refl _ | refine Grow.plus ?_ _ | refine Grow.alloc ?_ _ | refine Grow.drew ?_))⟩
  · go_enter Try.func20, Try.ntmps20
    go_wp2
    go_loopw [3, 4, 8] (fun b _ i wr => ∃ k : Nat, k ≤ 5 ∧ i = .int .i64 k ∧ b = .int .i64 (bestTo r k) ∧ ∃ x, wr = (w.alloc (.cells (cellsOf r) 23)).plus x) (fun _ _ i _ => 5 - (intOf i).toNat)
    case atStart => exact ⟨0, by omega, rfl, rfl, (by first | exact ⟨_, rfl⟩ | exact ⟨_, plus_plus _ _ _⟩ | exact ⟨_, (plus_none _).symm⟩ | exact ⟨_, plus_drew _ _⟩ | exact ⟨_, by rw [plus_plus, plus_plus]⟩)⟩
    case round =>
      obtain ⟨k, hk, rfl, rfl, x, rfl⟩ := hrel
      by_cases hlt : k < 5
      · have hb := bestTo_lt r k
        have hb' : bestTo r k < 6 := by omega
        by_cases hc : gt r (bestTo r k) < gt r k
        · go_wp2_with fail
          refine wp_region_grow (by kernel_rfl) (by kernel_rfl) ?_; (repeat (go_big_quiet_step ( fail ))); refine wpQuiet_nil ?_; rintro _ ⟨nx, rfl⟩
          go_wp2_with fail
          go_roundw
          case rel => exact ⟨k + 1, by omega, by go_num, by rw [bestTo, if_pos hc], (by first | exact ⟨_, rfl⟩ | exact ⟨_, plus_plus _ _ _⟩ | exact ⟨_, (plus_none _).symm⟩ | exact ⟨_, plus_drew _ _⟩ | exact ⟨_, by rw [plus_plus, plus_plus]⟩)⟩
          case measure => simp [intOf]; omega
        · go_wp2_with fail
          refine wp_region_grow (by kernel_rfl) (by kernel_rfl) ?_; (repeat (go_big_quiet_step ( fail ))); refine wpQuiet_nil ?_; rintro _ ⟨nx, rfl⟩
          go_wp2_with fail
          go_roundw
          case rel => exact ⟨k + 1, by omega, by go_num, by rw [bestTo, if_neg (by omega)], (by first | exact ⟨_, rfl⟩ | exact ⟨_, plus_plus _ _ _⟩ | exact ⟨_, (plus_none _).symm⟩ | exact ⟨_, plus_drew _ _⟩ | exact ⟨_, by rw [plus_plus, plus_plus]⟩)⟩
          case measure => simp [intOf]; omega
      · go_wp2
        obtain rfl : k = 5 := by omega
        go_ret
        exact ⟨ret_int (by rw [nextL, if_neg (by omega)]), (by repeat (first | exact Grow.refl _ | refine Grow.plus ?_ _ | refine Grow.alloc ?_ _ | refine Grow.drew ?_))⟩
end Go.Proofs.Ytondnigiepkobaa
