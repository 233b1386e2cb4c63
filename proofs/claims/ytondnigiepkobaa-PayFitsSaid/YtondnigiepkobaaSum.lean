/-
  The walks of mana.Add, pay.Sum, and of the law PaySums.
-/
import Derived.Test.YtondnigiepkobaaPay5
namespace Go.Proofs.Ytondnigiepkobaa
open Go Go.RowKit

theorem goodL_set {c : List Int} (h : goodL c = true) (i : Nat) (x : Int) (h0 : 0 ≤ x ∧ x ≤ 1000) : goodL (c.set i x) = true := by
  rw [goodL, List.all_eq_true] at *
  intro y hy
  rcases List.mem_or_eq_of_mem_set hy with h1 | h1
  · exact h y h1
  · subst h1; simp [goodN, h0]
theorem goodL_of {c : List Int} (h : ∀ i, i < c.length → 0 ≤ gt c i ∧ gt c i ≤ 1000) : goodL c = true := by
  rw [goodL, List.all_eq_true]
  intro y hy
  obtain ⟨i, hi, rfl⟩ := List.getElem_of_mem hy
  have := h i hi
  rw [gt_eq c i hi] at this
  simp [goodN, this]
/-- a with the first k numbers of b besides. -/
def addTo (a b : List Int) : Nat → List Int
  | 0 => a
  | k + 1 => (addTo a b k).set k (gt (addTo a b k) k + gt b k)
/-- The sums of the first k, and 0. -/
def wantTo (a b : List Int) : Nat → List Int
  | 0 => [0, 0, 0, 0, 0, 0]
  | k + 1 => (wantTo a b k).set k (gt a k + gt b k)
theorem addTo_len (a b : List Int) : ∀ k, (addTo a b k).length = a.length
  | 0 => rfl
  | k + 1 => by simp [addTo, addTo_len a b k]
theorem wantTo_len (a b : List Int) : ∀ k, (wantTo a b k).length = 6
  | 0 => rfl
  | k + 1 => by simp [wantTo, wantTo_len a b k]
theorem addTo_at (a b : List Int) (ha : a.length = 6) : ∀ k i, gt (addTo a b k) i = if i < k ∧ i < 6 then gt a i + gt b i else gt a i
  | 0, i => by simp [addTo]
  | k + 1, i => by
    have ih := addTo_at a b ha k
    have hl := addTo_len a b k
    rw [addTo]
    by_cases h6 : k < 6
    · rw [gt_set _ _ _ _ (by omega)]
      by_cases e : k = i
      · subst e; rw [if_pos rfl, ih, if_neg (by omega), if_pos (by omega)]
      · rw [if_neg e, ih]
        by_cases h : i < k ∧ i < 6
        · rw [if_pos h, if_pos (by omega)]
        · rw [if_neg h, if_neg (by omega)]
    · rw [List.set_eq_of_length_le (by omega), ih]
      by_cases h : i < k ∧ i < 6
      · rw [if_pos h, if_pos (by omega)]
      · rw [if_neg h, if_neg (by omega)]
theorem wantTo_at (a b : List Int) : ∀ k i, gt (wantTo a b k) i = if i < k ∧ i < 6 then gt a i + gt b i else 0
  | 0, i => by
    have h0 : gt [0, 0, 0, 0, 0, 0] i = 0 := by
      match i with
      | 0 | 1 | 2 | 3 | 4 | 5 => rfl
      | n + 6 => rfl
    simp [wantTo, h0]
  | k + 1, i => by
    have ih := wantTo_at a b k
    have hl := wantTo_len a b k
    rw [wantTo]
    by_cases h6 : k < 6
    · rw [gt_set _ _ _ _ (by omega)]
      by_cases e : k = i
      · subst e; rw [if_pos rfl, if_pos (by omega)]
      · rw [if_neg e, ih]
        by_cases h : i < k ∧ i < 6
        · rw [if_pos h, if_pos (by omega)]
        · rw [if_neg h, if_neg (by omega)]
    · rw [List.set_eq_of_length_le (by omega), ih]
      by_cases h : i < k ∧ i < 6
      · rw [if_pos h, if_pos (by omega)]
      · rw [if_neg h, if_neg (by omega)]
theorem addTo_want (a b : List Int) (ha : a.length = 6) : addTo a b 6 = wantTo a b 6 := by
  refine gt_ext _ _ (by rw [addTo_len, wantTo_len, ha]) fun i hi => ?_
  rw [addTo_len, ha] at hi
  rw [addTo_at a b ha, wantTo_at, if_pos ⟨hi, hi⟩, if_pos ⟨hi, hi⟩]
theorem addTo_good {a b : List Int} (ha : a.length = 6) (ga : goodL a = true) (gb : goodL b = true) (k : Nat) (h : ∀ i, i < k → gt a i + gt b i ≤ 1000) : goodL (addTo a b k) = true := by
  refine goodL_of fun i _ => ?_
  have h1 := goodL_gt ga i
  have h2 := goodL_gt gb i
  rw [addTo_at a b ha]
  split
  · rename_i h3; have := h i h3.1; omega
  · omega

set_option maxHeartbeats 400000 in
theorem add_yes (a : List Int) (i n : Int) (ha : a.length = 6) (ga : goodL a = true) (h0 : 0 ≤ i) (h5 : i < 6) (hn : 0 ≤ n) (hm : gt a i.toNat + n ≤ 1000) (w : World) :
    Calls Try.prog 22 #[.agg (cellsOf a), .int .i64 i, .int .i64 n] w fun e w' => e = .returned (.tuple #[.agg (cellsOf (a.set i.toNat (gt a i.toNat + n))), .nilIface]) ∧ Grow w w' := by
  have hb := goodL_gt ga i.toNat
  obtain ⟨k, rfl⟩ := Int.eq_ofNat_of_zero_le h0
  simp only [Int.toNat_natCast] at *
  have hk6 : k < 6 := by omega
  go_enter Try.func22, Try.ntmps22
  go_wp2_with (go_at_call 25; refine (good_any _ ha _).mono ?_; rintro e w' ⟨rfl, nx, rfl⟩)
  refine bodyPost_ret (results_Ct rfl _ _ (w.heap.size + 1) rfl ?_) rfl ?_
  · go_simp
  · exact ⟨by go_simp, (by repeat (first | exact Grow.refl _ | refine Grow.plus ?_ _ | refine Grow.alloc ?_ _ | refine Grow.drew ?_))⟩

set_option maxHeartbeats 400000 in
theorem add_over (a : List Int) (i n : Int) (ha : a.length = 6) (ga : goodL a = true) (h0 : 0 ≤ i) (h5 : i < 6) (hn : 0 ≤ n) (hm : 1000 < gt a i.toNat + n) (w : World) :
    Calls Try.prog 22 #[.agg (cellsOf a), .int .i64 i, .int .i64 n] w fun e w' => e = .returned (.tuple #[.agg (cellsOf [0, 0, 0, 0, 0, 0]), .iface 37 (.int .i64 1)]) ∧ Grow w w' := by
  have hb := goodL_gt ga i.toNat
  obtain ⟨k, rfl⟩ := Int.eq_ofNat_of_zero_le h0
  simp only [Int.toNat_natCast] at *
  have hk6 : k < 6 := by omega
  go_enter Try.func22, Try.ntmps22
  go_wp2_with (go_at_call 25; refine (good_any _ ha _).mono ?_; rintro e w' ⟨rfl, nx, rfl⟩)
  refine bodyPost_ret (results_Ct rfl _ _ (w.heap.size + 1) rfl ?_) rfl ?_
  · go_simp
  · exact ⟨by go_simp, (by repeat (first | exact Grow.refl _ | refine Grow.plus ?_ _ | refine Grow.alloc ?_ _ | refine Grow.drew ?_))⟩

set_option maxHeartbeats 800000 in
theorem sum_bad (a b : List Int) (ha : a.length = 6) (hb : b.length = 6) (hg : (goodL a && goodL b) = false) (w : World) :
    Calls Try.prog 13 #[.agg (cellsOf a), .agg (cellsOf b)] w fun e w' => e = .returned (.tuple #[.agg (cellsOf [0, 0, 0, 0, 0, 0]), .iface 37 (.int .i64 2)]) ∧ Grow w w' := by
  go_enter Try.func13, Try.ntmps13
  go_wp2_with (go_at_call 19; refine (both_any _ _ ha hb _).mono ?_; rintro e w' ⟨rfl, nx, rfl⟩)
  refine bodyPost_ret (results_Ct rfl _ _ (w.heap.size + 2) rfl ?_) rfl ?_
  · go_simp
  · exact ⟨by go_simp, (by repeat (first | exact Grow.refl _ | refine Grow.plus ?_ _ | refine Grow.alloc ?_ _ | refine Grow.drew ?_))⟩

/-- Is a sum too great among the first k? -/
def overTo (a b : List Int) (k : Nat) : Bool := (List.range k).any fun i => decide (1000 < gt a i + gt b i)
theorem overTo_no {a b : List Int} {k : Nat} (h : ∀ i, i < k → gt a i + gt b i ≤ 1000) : overTo a b k = false := by
  rw [overTo, List.any_eq_false]
  intro i hi
  have := h i (List.mem_range.1 hi)
  simp; omega
theorem overTo_yes {a b : List Int} {k i : Nat} (hi : i < k) (h : 1000 < gt a i + gt b i) : overTo a b k = true := by
  rw [overTo, List.any_eq_true]
  exact ⟨i, List.mem_range.2 hi, by simp; omega⟩

/-- What pay.Sum of two costs answers. -/
def sumErr (a b : List Int) : Value := if overTo a b 6 then .iface 37 (.int .i64 1) else .nilIface
def sumVal (a b : List Int) : List Int := if overTo a b 6 then [0, 0, 0, 0, 0, 0] else wantTo a b 6

set_option maxHeartbeats 800000 in
theorem sum_any (a b : List Int) (ha : a.length = 6) (hb : b.length = 6) (ga : goodL a = true) (gb : goodL b = true) (w : World) :
    Calls Try.prog 13 #[.agg (cellsOf a), .agg (cellsOf b)] w fun e w' => e = .returned (.tuple #[.agg (cellsOf (sumVal a b)), sumErr a b]) ∧ Grow w w' := by
  have GA := Lib.hid ga
  have GB := Lib.hid gb
  go_enter Try.func13, Try.ntmps13
  go_wp2_with (go_at_call 19; refine (both_any _ _ ha hb _).mono ?_; rintro e w' ⟨rfl, nx, rfl⟩)
  clear ga gb
  go_loopw [6, 7, 8, 9, 17] (fun _ _ _ _ i wr => ∃ k : Nat, k ≤ 6 ∧ i = .int .i64 k ∧ Hid (∀ i, i < k → gt a i + gt b i ≤ 1000) ∧ Grow (((w.alloc (.cells (cellsOf (addTo a b k)) 23)).alloc (.cells (cellsOf b) 23)).alloc (.cells (cellsOf [0, 0, 0, 0, 0, 0]) 23)) wr) (fun _ _ _ _ i _ => 6 - (intOf i).toNat)
  case atStart => exact ⟨0, by omega, rfl, fun i hi => by omega, (by repeat (first | exact Grow.refl _ | refine Grow.plus ?_ _ | refine Grow.alloc ?_ _ | refine Grow.drew ?_))⟩
  case round =>
    obtain ⟨k, hk, rfl, hle, x, rfl⟩ := hrel
    have hl := (addTo_len a b k).trans ha
    by_cases hlt : k < 6
    · have Hg := Lib.hid (addTo_good ha GA.out GB.out k hle.out)
      have b1 := goodL_gt GB.out k
      have b2 := goodL_gt GA.out k
      have hv : gt (addTo a b k) k = gt a k := by rw [addTo_at a b ha, if_neg (by omega)]
      have HV := Lib.hid hv
      clear hv
      by_cases ho : 1000 < gt a k + gt b k
      · go_wp2_with (go_at_call 22; refine (add_over _ _ _ hl Hg.out (by omega) (by omega) (by omega) (by rw [Int.toNat_natCast, HV.out]; omega) _).mono ?_; rintro e w' ⟨rfl, nx, rfl⟩)
        refine bodyPost_ret (results_Ct rfl _ _ (w.heap.size + 2) rfl ?_) rfl ?_
        · go_simp
        · refine ⟨?_, (by repeat (first | exact Grow.refl _ | refine Grow.plus ?_ _ | refine Grow.alloc ?_ _ | refine Grow.drew ?_))⟩
          have h1 := overTo_yes hlt ho
          rw [sumVal, sumErr, h1]
          go_simp
      · go_wp2_with (go_at_call 22; refine (add_yes _ _ _ hl Hg.out (by omega) (by omega) (by omega) (by rw [Int.toNat_natCast, HV.out]; omega) _).mono ?_; rintro e w' ⟨rfl, nx, rfl⟩)
        go_roundw
        case rel => exact ⟨k + 1, by omega, by go_num, all_succ hle.out (by omega), (by repeat (first | exact Grow.refl _ | refine Grow.plus ?_ _ | refine Grow.alloc ?_ _ | refine Grow.drew ?_))⟩
        case measure => simp [intOf]; omega
    · have HK : Hid (addTo a b k = wantTo a b 6) := by rw [Hid, ← addTo_want a b ha, show k = 6 by omega]
      have HO : Hid (overTo a b 6 = false) := overTo_no (fun i hi => hle.out i (by omega))
      go_wp2_with fail
      refine bodyPost_ret (results_Ct rfl _ _ (w.heap.size + 2) rfl ?_) rfl ?_
      · go_simp
      · refine ⟨?_, (by repeat (first | exact Grow.refl _ | refine Grow.plus ?_ _ | refine Grow.alloc ?_ _ | refine Grow.drew ?_))⟩
        rw [sumVal, sumErr, HO.out, ← HK.out]
        go_simp

theorem goodL_want {a b : List Int} (ga : goodL a = true) (gb : goodL b = true) : goodL (wantTo a b 6) = !overTo a b 6 := by
  cases ho : overTo a b 6 with
  | false =>
    refine goodL_of fun i hi => ?_
    rw [wantTo_len] at hi
    have h1 := goodL_gt ga i
    have h2 := goodL_gt gb i
    have h3 : ¬ 1000 < gt a i + gt b i := fun h => by rw [overTo_yes hi h] at ho; cases ho
    rw [wantTo_at, if_pos ⟨hi, hi⟩]
    omega
  | true =>
    obtain ⟨i, hi, h⟩ := List.any_eq_true.1 ho
    have hi' := List.mem_range.1 hi
    refine goodL_bad i ?_
    rw [wantTo_at, if_pos ⟨hi', hi'⟩]
    simp at h
    simp [goodN]; omega

set_option maxHeartbeats 1600000 in
theorem paySums_good (a b : List Int) (ha : a.length = 6) (hb : b.length = 6) (ga : goodL a = true) (gb : goodL b = true) (w : World) :
    Calls Try.prog 4 #[.agg (cellsOf a), .agg (cellsOf b)] w fun e w' => e = .returned (.bool true) ∧ Grow w w' := by
  have GA := Lib.hid ga
  have GB := Lib.hid gb
  obtain ⟨err, he⟩ : ∃ err, err = sumErr a b := ⟨_, rfl⟩
  obtain ⟨val, hv⟩ : ∃ val, val = sumVal a b := ⟨_, rfl⟩
  have hs := fun w => sum_any a b ha hb ga gb w
  rw [← he, ← hv] at hs
  have HS := Lib.hid hs
  clear hs
  have lv : val.length = 6 := by rw [hv, sumVal]; split; rfl; exact wantTo_len a b 6
  have gw := goodL_want ga gb
  have cases : (overTo a b 6 = true ∧ err = .iface 37 (.int .i64 1) ∧ val = [0, 0, 0, 0, 0, 0]) ∨ (overTo a b 6 = false ∧ err = .nilIface ∧ val = wantTo a b 6) := by
    cases ho : overTo a b 6 with
    | true => exact .inl ⟨rfl, by rw [he, sumErr, ho]; rfl, by rw [hv, sumVal, ho]; rfl⟩
    | false => exact .inr ⟨rfl, by rw [he, sumErr, ho]; rfl, by rw [hv, sumVal, ho]; rfl⟩
  clear he hv
  have lw := wantTo_len a b 6
  rcases cases with ⟨ho, rfl, rfl⟩ | ⟨ho, rfl, rfl⟩
  all_goals
    rw [ho] at gw
    simp only [Bool.not_true, Bool.not_false] at gw
    have GW : Hid (goodL (wantTo a b 6) = _) := gw
    clear gw ho
    go_enter Try.func4, Try.ntmps4
    go_wp2_with (first | (go_at_call 7; refine (alive_any _).mono ?_; rintro e w' ⟨rfl, n1, rfl⟩) | (go_at_call 13; refine (HS.out _).mono ?_; rintro e w' ⟨rfl, n2, rfl⟩))
    refine (refGood_any a ha _).mono ?_
    rintro e w' ⟨rfl, n3, rfl⟩
    go_wp2_with fail
    refine (refGood_any b hb _).mono ?_
    rintro e w' ⟨rfl, n4, rfl⟩
    go_wp2_with fail
    clear ga gb
  · go_loopw [8, 33] (fun _ i wr => ∃ k : Nat, k ≤ 6 ∧ i = .int .i64 k ∧ Grow (((((w.alloc (.cells (cellsOf a) 23)).alloc (.cells (cellsOf b) 23)).plus (n1.and n2)).alloc (.cells (cellsOf [0, 0, 0, 0, 0, 0]) 23)).plus (n3.and n4) |>.alloc (.cells (cellsOf (wantTo a b k)) 23)) wr) (fun _ i _ => 6 - (intOf i).toNat)
    case atStart => exact ⟨0, by omega, rfl, (by repeat (first | exact Grow.refl _ | refine Grow.plus ?_ _ | refine Grow.alloc ?_ _ | refine Grow.drew ?_))⟩
    case round =>
      obtain ⟨k, hk, rfl, x, rfl⟩ := hrel
      have hl := wantTo_len a b k
      have b1 := goodL_gt GB.out k
      have b2 := goodL_gt GA.out k
      by_cases hlt : k < 6
      · go_wp2_with fail
        refine wp_region_order [0, 1, 2, 3, 4, 5, 6, 7, 8] 9 [] (by kernel_rfl) (by kernel_rfl) ?_; simp only [pickO, List.getElem?_cons_zero, List.getElem?_cons_succ]; (repeat (go_big_quiet_step ( fail ))); refine wpQuiet_nil ?_; rintro _ ⟨nx, rfl⟩
        go_wp2_with fail
        go_roundw
        case rel => exact ⟨k + 1, by omega, by go_num, (by repeat (first | exact Grow.refl _ | refine Grow.plus ?_ _ | refine Grow.alloc ?_ _ | refine Grow.drew ?_))⟩
        case measure => simp [intOf]; omega
      · have hk6 : (wantTo a b k) = wantTo a b 6 := by rw [show k = 6 by omega]
        go_wp2_with fail
        refine (refGood_any _ lw _).mono ?_
        rintro e w' ⟨rfl, n5, rfl⟩
        rw [GW.out]
        go_wp2_with (go_at_call 15; refine (is_err 1 1 rfl _).mono ?_; rintro e w' ⟨rfl, rfl⟩)
        go_ret
        exact ⟨ret_bool (by simp), (by repeat (first | exact Grow.refl _ | refine Grow.plus ?_ _ | refine Grow.alloc ?_ _ | refine Grow.drew ?_))⟩
  · go_loopw [8, 33] (fun _ i wr => ∃ k : Nat, k ≤ 6 ∧ i = .int .i64 k ∧ Grow (((((w.alloc (.cells (cellsOf a) 23)).alloc (.cells (cellsOf b) 23)).plus (n1.and n2)).alloc (.cells (cellsOf (wantTo a b 6)) 23)).plus (n3.and n4) |>.alloc (.cells (cellsOf (wantTo a b k)) 23)) wr) (fun _ i _ => 6 - (intOf i).toNat)
    case atStart => exact ⟨0, by omega, rfl, (by repeat (first | exact Grow.refl _ | refine Grow.plus ?_ _ | refine Grow.alloc ?_ _ | refine Grow.drew ?_))⟩
    case round =>
      obtain ⟨k, hk, rfl, x, rfl⟩ := hrel
      have hl := wantTo_len a b k
      have b1 := goodL_gt GB.out k
      have b2 := goodL_gt GA.out k
      by_cases hlt : k < 6
      · go_wp2_with fail
        refine wp_region_order [0, 1, 2, 3, 4, 5, 6, 7, 8] 9 [] (by kernel_rfl) (by kernel_rfl) ?_; simp only [pickO, List.getElem?_cons_zero, List.getElem?_cons_succ]; (repeat (go_big_quiet_step ( fail ))); refine wpQuiet_nil ?_; rintro _ ⟨nx, rfl⟩
        go_wp2_with fail
        go_roundw
        case rel => exact ⟨k + 1, by omega, by go_num, (by repeat (first | exact Grow.refl _ | refine Grow.plus ?_ _ | refine Grow.alloc ?_ _ | refine Grow.drew ?_))⟩
        case measure => simp [intOf]; omega
      · have hk6 : (wantTo a b k) = wantTo a b 6 := by rw [show k = 6 by omega]
        go_wp2_with fail
        refine (refGood_any _ lw _).mono ?_
        rintro e w' ⟨rfl, n5, rfl⟩
        rw [GW.out]
        go_wp2_with (go_at_call 15; refine (is_err 1 1 rfl _).mono ?_; rintro e w' ⟨rfl, rfl⟩)
        go_ret
        exact ⟨ret_bool (by simp), (by repeat (first | exact Grow.refl _ | refine Grow.plus ?_ _ | refine Grow.alloc ?_ _ | refine Grow.drew ?_))⟩

set_option maxHeartbeats 800000 in
theorem paySums_bad (a b : List Int) (ha : a.length = 6) (hb : b.length = 6) (hg : (goodL a && goodL b) = false) (w : World) :
    Calls Try.prog 4 #[.agg (cellsOf a), .agg (cellsOf b)] w fun e w' => e = .returned (.bool true) ∧ Grow w w' := by
  have HG := Lib.hid hg
  cases ga : goodL a <;> cases gb : goodL b <;> first | (rw [ga, gb] at hg; cases hg; done) | skip
  all_goals
    go_enter Try.func4, Try.ntmps4
    go_wp2_with (first | (go_at_call 7; refine (alive_any _).mono ?_; rintro e w' ⟨rfl, n1, rfl⟩) | (go_at_call 13; refine (sum_bad a b ha hb HG.out _).mono ?_; rintro e w' ⟨rfl, n2, rfl⟩) | (go_at_call 14; refine (refGood_any _ (by assumption) _).mono ?_; rintro e w' ⟨rfl, nx, rfl⟩) | (go_at_call 15; refine (is_err 2 2 rfl _).mono ?_; rintro e w' ⟨rfl, rfl⟩))
    go_ret
    exact ⟨ret_bool (by simp), (by repeat (first | exact Grow.refl _ | refine Grow.plus ?_ _ | refine Grow.alloc ?_ _ | refine Grow.drew ?_))⟩

theorem paySums_any (a b : List Int) (ha : a.length = 6) (hb : b.length = 6) (w : World) :
    Calls Try.prog 4 #[.agg (cellsOf a), .agg (cellsOf b)] w fun e w' => e = .returned (.bool true) ∧ Grow w w' := by
  cases h : goodL a && goodL b with
  | true => exact paySums_good a b ha hb (and_parts h).1 (and_parts h).2 w
  | false => exact paySums_bad a b ha hb h w
end Go.Proofs.Ytondnigiepkobaa
