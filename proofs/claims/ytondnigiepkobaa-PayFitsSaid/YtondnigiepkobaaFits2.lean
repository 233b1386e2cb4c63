/-
  The walk of the law PayFits.
-/
import Derived.Test.YtondnigiepkobaaFits
namespace Go.Proofs.Ytondnigiepkobaa
open Go Go.RowKit

theorem ways_pos {p c : List Int} (hp : p.length = 6) (hc : c.length = 6) (hcan : canL p c = true) (h60 : p.sum ≤ 60) : 0 < waysL (backTo p c 6) (gt c 5) := by
  have F := free_of hp hcan h60
  refine waysL_pos _ _ (fun x hx => ?_) (goodL_gt (canL_good hcan).2 5).1 ?_
  · have key : ∀ k x, x ∈ backTo p c k → 0 ≤ x := by
      intro k
      induction k with
      | zero => intro x h; cases h
      | succ k ih =>
        intro x h
        rcases List.mem_cons.1 h with h | h
        · rw [h]; exact F.pos k
        · exact ih x h
    exact key 6 x hx
  · have hs := (canL_parts hcan).1
    rw [sum6 p hp, sum6 c hc] at hs
    have f0 : freeAt p c 0 = gt p 0 - gt c 0 := rfl
    have f1 : freeAt p c 1 = gt p 1 - gt c 1 := rfl
    have f2 : freeAt p c 2 = gt p 2 - gt c 2 := rfl
    have f3 : freeAt p c 3 = gt p 3 - gt c 3 := rfl
    have f4 : freeAt p c 4 = gt p 4 - gt c 4 := rfl
    have f5 : freeAt p c 5 = gt p 5 := rfl
    simp only [backTo, List.sum_cons, List.sum_nil]
    omega

/-- A smaller cost is paid, too. -/
theorem can_less {p c : List Int} (hc : c.length = 6) (hcan : canL p c = true) (k : Nat) (hk : k < 6) (h0 : 0 < gt c k) : canL p (c.set k (gt c k - 1)) = true := by
  obtain ⟨gp, gc⟩ := canL_good hcan
  obtain ⟨hs, hle⟩ := canL_parts hcan
  have hl : (c.set k (gt c k - 1)).length = 6 := by simp [hc]
  refine canL_yes gp (goodL_of fun i _ => ?_) ?_ (fun i hi => ?_)
  · rw [gt_set _ _ _ _ (by omega)]
    have := goodL_gt gc i
    have := goodL_gt gc k
    split <;> omega
  · rw [sum6 _ hl]
    rw [sum6 c hc] at hs
    simp only [gt_set _ _ _ _ (show k < c.length by omega)]
    rcases lt6 hk with rfl | rfl | rfl | rfl | rfl | rfl <;> simp <;> omega
  · rw [gt_set _ _ _ _ (by omega)]
    have := hle i hi
    split
    · rename_i e; subst e; omega
    · omega

theorem less_six (x : Int) : ∃ k : Nat, k < 6 ∧ wrap64 ((IntKind.u64.wrap x).tmod 6) = k := by
  have h : 0 ≤ IntKind.u64.wrap x := by
    simp only [IntKind.wrap, IntKind.signed, IntKind.bits]
    simp
    omega
  rw [Int.tmod_eq_emod_of_nonneg h]
  have h1 : 0 ≤ IntKind.u64.wrap x % 6 ∧ IntKind.u64.wrap x % 6 < 6 := by omega
  generalize IntKind.u64.wrap x % 6 = y at h1
  refine ⟨y.toNat, by omega, ?_⟩
  unfold wrap64; omega

set_option maxRecDepth 100000 in
set_option maxHeartbeats 2000000 in
theorem payFits_yes (p c : List Int) (hp : p.length = 6) (hc : c.length = 6) (less : Int) (hcan : canL p c = true) (h60 : p.sum ≤ 60) (w : World) :
    Calls Try.prog 6 #[.agg (cellsOf p), .agg (cellsOf c), .int .i64 less] w fun e w' => e = .returned (.bool true) ∧ Grow w w' := by
  have F := fits_pay hp hc hcan
  have PY := Lib.hid (fun w => pay_yes p c hp hc hcan w)
  have WY := Lib.hid (fun w => ways_yes p c hp hc hcan h60 w)
  have hpos := ways_pos hp hc hcan h60
  generalize waysL (backTo p c 6) (gt c 5) = n at *
  generalize (payL p c).1 = r at *
  generalize (payL p c).2 = q at *
  have SY : Hid (∀ w : World, Calls Try.prog 13 #[.agg (cellsOf r), .agg (cellsOf q)] w fun e w' => e = .returned (.tuple #[.agg (cellsOf p), .nilIface]) ∧ Grow w w') := by
    intro w
    have := sum_any r q F.lr F.lq F.gr F.gq w
    rw [sumVal, sumErr, F.over, F.pool] at this
    exact this
  have IY := Lib.hid (fun w => refIs_any q p c F.lq hp hc F.gq (canL_good hcan).2 F.le F.own F.sum w)
  have lr := F.lr
  have lq := F.lq
  obtain ⟨k, hk6, hk⟩ := less_six less
  have bk := goodL_gt (canL_good hcan).2 k
  clear h60
  by_cases h0 : 0 < gt c k
  · have hcl := can_less hc hcan k hk6 h0
    have hlc : (c.set k (gt c k - 1)).length = 6 := by simp [hc]
    go_enter Try.func6, Try.ntmps6
    go_wp2_with (first | (go_at_call 7; refine (alive_any _).mono ?_; rintro e w' ⟨rfl, nx, rfl⟩) | (go_at_call 8; refine (PY.out _).mono ?_; rintro e w' ⟨rfl, nx, rfl⟩) | (go_at_call 16; refine (WY.out _).mono ?_; rintro e w' ⟨rfl, nx, rfl⟩) | (go_at_call 13; refine (SY.out _).mono ?_; rintro e w' ⟨rfl, nx, rfl⟩) | (go_at_call 18; refine (IY.out _).mono ?_; rintro e w' ⟨rfl, nx, rfl⟩) | (go_at_call 11; refine (can_any _ _ (by assumption) (by assumption) _).mono ?_; rintro e w' ⟨rfl, nx, rfl⟩))
    go_ret
    exact ⟨rfl, (by repeat (first | exact Grow.refl _ | refine Grow.plus ?_ _ | refine Grow.alloc ?_ _ | refine Grow.drew ?_))⟩
  · go_enter Try.func6, Try.ntmps6
    go_wp2_with (first | (go_at_call 7; refine (alive_any _).mono ?_; rintro e w' ⟨rfl, nx, rfl⟩) | (go_at_call 8; refine (PY.out _).mono ?_; rintro e w' ⟨rfl, nx, rfl⟩) | (go_at_call 16; refine (WY.out _).mono ?_; rintro e w' ⟨rfl, nx, rfl⟩) | (go_at_call 13; refine (SY.out _).mono ?_; rintro e w' ⟨rfl, nx, rfl⟩) | (go_at_call 18; refine (IY.out _).mono ?_; rintro e w' ⟨rfl, nx, rfl⟩) | (go_at_call 11; refine (can_any _ _ (by assumption) (by assumption) _).mono ?_; rintro e w' ⟨rfl, nx, rfl⟩))
    go_ret
    exact ⟨rfl, (by repeat (first | exact Grow.refl _ | refine Grow.plus ?_ _ | refine Grow.alloc ?_ _ | refine Grow.drew ?_))⟩

set_option maxRecDepth 100000 in
set_option maxHeartbeats 2000000 in
theorem payFits_over (p c : List Int) (hp : p.length = 6) (hc : c.length = 6) (less : Int) (hcan : canL p c = true) (h60 : ¬ p.sum ≤ 60) (w : World) :
    Calls Try.prog 6 #[.agg (cellsOf p), .agg (cellsOf c), .int .i64 less] w fun e w' => e = .returned (.bool true) ∧ Grow w w' := by
  have F := fits_pay hp hc hcan
  have PY := Lib.hid (fun w => pay_yes p c hp hc hcan w)
  have WY := Lib.hid (fun w => ways_over p c hp hc (canL_good hcan).1 (canL_good hcan).2 h60 w)
  generalize (payL p c).1 = r at *
  generalize (payL p c).2 = q at *
  have SY : Hid (∀ w : World, Calls Try.prog 13 #[.agg (cellsOf r), .agg (cellsOf q)] w fun e w' => e = .returned (.tuple #[.agg (cellsOf p), .nilIface]) ∧ Grow w w') := by
    intro w
    have := sum_any r q F.lr F.lq F.gr F.gq w
    rw [sumVal, sumErr, F.over, F.pool] at this
    exact this
  have IY := Lib.hid (fun w => refIs_any q p c F.lq hp hc F.gq (canL_good hcan).2 F.le F.own F.sum w)
  have lr := F.lr
  have lq := F.lq
  obtain ⟨k, hk6, hk⟩ := less_six less
  have bk := goodL_gt (canL_good hcan).2 k
  clear h60
  by_cases h0 : 0 < gt c k
  · have hcl := can_less hc hcan k hk6 h0
    have hlc : (c.set k (gt c k - 1)).length = 6 := by simp [hc]
    go_enter Try.func6, Try.ntmps6
    go_wp2_with (first | (go_at_call 7; refine (alive_any _).mono ?_; rintro e w' ⟨rfl, nx, rfl⟩) | (go_at_call 8; refine (PY.out _).mono ?_; rintro e w' ⟨rfl, nx, rfl⟩) | (go_at_call 16; refine (WY.out _).mono ?_; rintro e w' ⟨rfl, nx, rfl⟩) | (go_at_call 13; refine (SY.out _).mono ?_; rintro e w' ⟨rfl, nx, rfl⟩) | (go_at_call 18; refine (IY.out _).mono ?_; rintro e w' ⟨rfl, nx, rfl⟩) | (go_at_call 11; refine (can_any _ _ (by assumption) (by assumption) _).mono ?_; rintro e w' ⟨rfl, nx, rfl⟩))
    go_ret
    exact ⟨rfl, (by repeat (first | exact Grow.refl _ | refine Grow.plus ?_ _ | refine Grow.alloc ?_ _ | refine Grow.drew ?_))⟩
  · go_enter Try.func6, Try.ntmps6
    go_wp2_with (first | (go_at_call 7; refine (alive_any _).mono ?_; rintro e w' ⟨rfl, nx, rfl⟩) | (go_at_call 8; refine (PY.out _).mono ?_; rintro e w' ⟨rfl, nx, rfl⟩) | (go_at_call 16; refine (WY.out _).mono ?_; rintro e w' ⟨rfl, nx, rfl⟩) | (go_at_call 13; refine (SY.out _).mono ?_; rintro e w' ⟨rfl, nx, rfl⟩) | (go_at_call 18; refine (IY.out _).mono ?_; rintro e w' ⟨rfl, nx, rfl⟩) | (go_at_call 11; refine (can_any _ _ (by assumption) (by assumption) _).mono ?_; rintro e w' ⟨rfl, nx, rfl⟩))
    go_ret
    exact ⟨rfl, (by repeat (first | exact Grow.refl _ | refine Grow.plus ?_ _ | refine Grow.alloc ?_ _ | refine Grow.drew ?_))⟩

set_option maxRecDepth 100000 in
set_option maxHeartbeats 2000000 in
theorem payFits_cant (p c : List Int) (hp : p.length = 6) (hc : c.length = 6) (less : Int) (gp : goodL p = true) (gc : goodL c = true) (hcan : canL p c = false) (h60 : p.sum ≤ 60) (w : World) :
    Calls Try.prog 6 #[.agg (cellsOf p), .agg (cellsOf c), .int .i64 less] w fun e w' => e = .returned (.bool true) ∧ Grow w w' := by
  have CN := Lib.hid (fun w => can_any p c hp hc w)
  rw [hcan] at CN
  have PY := Lib.hid (fun w => pay_cant p c hp hc gp gc hcan w)
  have WY := Lib.hid (fun w => ways_cant p c hp hc gp gc hcan h60 w)
  clear gp gc hcan h60
  go_enter Try.func6, Try.ntmps6
  go_wp2_with (first | (go_at_call 7; refine (alive_any _).mono ?_; rintro e w' ⟨rfl, nx, rfl⟩) | (go_at_call 8; refine (PY.out _).mono ?_; rintro e w' ⟨rfl, nx, rfl⟩) | (go_at_call 16; refine (WY.out _).mono ?_; rintro e w' ⟨rfl, nx, rfl⟩) | (go_at_call 11; refine (CN.out _).mono ?_; rintro e w' ⟨rfl, nx, rfl⟩))
  go_ret
  exact ⟨rfl, (by repeat (first | exact Grow.refl _ | refine Grow.plus ?_ _ | refine Grow.alloc ?_ _ | refine Grow.drew ?_))⟩

set_option maxRecDepth 100000 in
set_option maxHeartbeats 2000000 in
theorem payFits_cantOver (p c : List Int) (hp : p.length = 6) (hc : c.length = 6) (less : Int) (gp : goodL p = true) (gc : goodL c = true) (hcan : canL p c = false) (h60 : ¬ p.sum ≤ 60) (w : World) :
    Calls Try.prog 6 #[.agg (cellsOf p), .agg (cellsOf c), .int .i64 less] w fun e w' => e = .returned (.bool true) ∧ Grow w w' := by
  have CN := Lib.hid (fun w => can_any p c hp hc w)
  rw [hcan] at CN
  have PY := Lib.hid (fun w => pay_cant p c hp hc gp gc hcan w)
  have WY := Lib.hid (fun w => ways_over p c hp hc gp gc h60 w)
  clear gp gc hcan h60
  go_enter Try.func6, Try.ntmps6
  go_wp2_with (first | (go_at_call 7; refine (alive_any _).mono ?_; rintro e w' ⟨rfl, nx, rfl⟩) | (go_at_call 8; refine (PY.out _).mono ?_; rintro e w' ⟨rfl, nx, rfl⟩) | (go_at_call 16; refine (WY.out _).mono ?_; rintro e w' ⟨rfl, nx, rfl⟩) | (go_at_call 11; refine (CN.out _).mono ?_; rintro e w' ⟨rfl, nx, rfl⟩))
  go_ret
  exact ⟨rfl, (by repeat (first | exact Grow.refl _ | refine Grow.plus ?_ _ | refine Grow.alloc ?_ _ | refine Grow.drew ?_))⟩

set_option maxRecDepth 100000 in
set_option maxHeartbeats 2000000 in
theorem payFits_bad (p c : List Int) (hp : p.length = 6) (hc : c.length = 6) (less : Int) (hg : (goodL p && goodL c) = false) (w : World) :
    Calls Try.prog 6 #[.agg (cellsOf p), .agg (cellsOf c), .int .i64 less] w fun e w' => e = .returned (.bool true) ∧ Grow w w' := by
  have hcan : canL p c = false := by rw [canL, hg]; rfl
  have CN := Lib.hid (fun w => can_any p c hp hc w)
  rw [hcan] at CN
  have PY := Lib.hid (fun w => pay_bad p c hp hc hg w)
  have WY := Lib.hid (fun w => ways_bad p c hp hc hg w)
  clear hg hcan
  go_enter Try.func6, Try.ntmps6
  go_wp2_with (first | (go_at_call 7; refine (alive_any _).mono ?_; rintro e w' ⟨rfl, nx, rfl⟩) | (go_at_call 8; refine (PY.out _).mono ?_; rintro e w' ⟨rfl, nx, rfl⟩) | (go_at_call 16; refine (WY.out _).mono ?_; rintro e w' ⟨rfl, nx, rfl⟩) | (go_at_call 11; refine (CN.out _).mono ?_; rintro e w' ⟨rfl, nx, rfl⟩))
  go_ret
  exact ⟨rfl, (by repeat (first | exact Grow.refl _ | refine Grow.plus ?_ _ | refine Grow.alloc ?_ _ | refine Grow.drew ?_))⟩

theorem payFits_any (p c : List Int) (hp : p.length = 6) (hc : c.length = 6) (less : Int)  (w : World) :
    Calls Try.prog 6 #[.agg (cellsOf p), .agg (cellsOf c), .int .i64 less] w fun e w' => e = .returned (.bool true) ∧ Grow w w' := by
  by_cases hg : (goodL p && goodL c) = true
  · have gp := (and_parts hg).1
    have gc := (and_parts hg).2
    by_cases h60 : p.sum ≤ 60
    · cases hcan : canL p c with
      | true => exact payFits_yes p c hp hc less hcan h60 w
      | false => exact payFits_cant p c hp hc less gp gc hcan h60 w
    · cases hcan : canL p c with
      | true => exact payFits_over p c hp hc less hcan h60 w
      | false => exact payFits_cantOver p c hp hc less gp gc hcan h60 w
  · exact payFits_bad p c hp hc less (by simpa using hg) w
end Go.Proofs.Ytondnigiepkobaa
