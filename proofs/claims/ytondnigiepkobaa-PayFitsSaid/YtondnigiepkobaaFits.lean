/-
  The walks of the reference's Is, and of the law PayFits.
-/
import Derived.Test.YtondnigiepkobaaWays
import Derived.BigRegion
namespace Go.Proofs.Ytondnigiepkobaa
open Go Go.RowKit

theorem Ext.and_assoc (x y z : Ext) : (x.and y).and z = x.and (y.and z) := by simp [Ext.and, Array.append_assoc, Nat.add_assoc]
/-- A callee's contract met in a world that had already grown when the region began. -/
theorem Calls.grow2 {P : Program} {f : FuncId} {args : Array Value} {w : World} {x y : Ext} {v : Value}
    (h : Calls P f args (w.plus (x.and y)) fun e w' => e = .returned v ∧ Grow (w.plus (x.and y)) w') : Calls P f args (w.plus (x.and y)) fun e w'' => e = .returned v ∧ ∃ m, w'' = w.plus (x.and m) :=
  h.mono fun _ _ ⟨he, m, hm⟩ => ⟨he, y.and m, by rw [hm, plus_plus, Ext.and_assoc]⟩

/-- What is paid is a payment, and with the rest it is the pool. -/
structure Fits (p c r q : List Int) : Prop where
  lr : r.length = 6
  lq : q.length = 6
  gr : goodL r = true
  gq : goodL q = true
  pool : wantTo r q 6 = p
  over : overTo r q 6 = false
  le : ∀ i, i < 6 → gt q i ≤ gt p i
  own : ∀ i, i < 5 → gt c i ≤ gt q i
  sum : q.sum = c.sum
theorem fits_pay {p c : List Int} (hp : p.length = 6) (hc : c.length = 6) (hcan : canL p c = true) : Fits p c (payL p c).1 (payL p c).2 := by
  have inv := (payInv_all hp hc hcan _ (Nat.le_refl _)).1
  have gp := goodL_gt (canL_good hcan).1
  have gc := goodL_gt (canL_good hcan).2
  have lr : (payL p c).1.length = 6 := inv.lr
  have lq : (payL p c).2.length = 6 := inv.lq
  have dif : ∀ i, i < 6 → gt (payL p c).1 i = gt p i - gt (payL p c).2 i ∧ 0 ≤ gt (payL p c).1 i := inv.dif
  have dif6 : ∀ i, gt (payL p c).1 i = gt p i - gt (payL p c).2 i ∧ 0 ≤ gt (payL p c).1 i ∧ 0 ≤ gt (payL p c).2 i := by
    intro i
    by_cases hi : i < 6
    · have h := dif i hi
      refine ⟨h.1, h.2, ?_⟩
      have h5 : (payL p c).2 = refPaid p c := (payInv_all hp hc hcan _ (Nat.le_refl _)).2
      rw [h5]
      exact (refN_bd p (c.set 5 0) (by simp [hc]) (fun j => by rw [gt_set _ _ _ _ (by omega)]; have := gc j; split <;> omega) _ i).1
    · have z : ∀ l : List Int, l.length = 6 → gt l i = 0 := fun l hl => by simp [gt, show ¬ i < l.length by omega]
      rw [z _ lr, z _ lq, z _ hp]; omega
  have hsum : gt (payL p c).1 0 + gt (payL p c).1 1 + gt (payL p c).1 2 + gt (payL p c).1 3 + gt (payL p c).1 4 + gt (payL p c).1 5 = p.sum - c.sum + gt c 5 - (gt c 5).toNat := inv.sum
  refine ⟨lr, lq, goodL_of fun i _ => ?_, goodL_of fun i _ => ?_, ?_, overTo_no fun i _ => ?_, fun i _ => ?_, inv.own, ?_⟩
  · have := dif6 i; have := gp i; omega
  · have := dif6 i; have := gp i; omega
  · refine gt_ext _ _ (by rw [wantTo_len, hp]) fun i hi => ?_
    rw [wantTo_len] at hi
    rw [wantTo_at, if_pos ⟨hi, hi⟩]
    have := dif6 i; omega
  · have := dif6 i; have := gp i; omega
  · have := dif6 i; omega
  · rw [sum6 _ lq]
    have c5 := gc 5
    have d0 := dif6 0; have d1 := dif6 1; have d2 := dif6 2; have d3 := dif6 3; have d4 := dif6 4; have d5 := dif6 5
    rw [sum6 p hp] at hsum
    omega

theorem refIs_any (q p c : List Int) (hq : q.length = 6) (hp : p.length = 6) (hc : c.length = 6) (gq : goodL q = true) (gc : goodL c = true) (hle : ∀ i, i < 6 → gt q i ≤ gt p i) (hown : ∀ i, i < 5 → gt c i ≤ gt q i) (hs : q.sum = c.sum) (w : World) :
    Calls Try.prog 18 #[.agg (cellsOf q), .agg (cellsOf p), .agg (cellsOf c)] w fun e w' => e = .returned (.bool true) ∧ Grow w w' := by
  have GQ := Lib.hid gq
  have GC := Lib.hid gc
  have HLE := Lib.hid hle
  have HOWN := Lib.hid hown
  have HS := Lib.hid hs
  clear gq gc hle hown hs
  go_enter Try.func18, Try.ntmps18
  go_wp2_with fail
  go_loopw [7] (fun i wr => ∃ k : Nat, k ≤ 6 ∧ i = .int .i64 k ∧ Grow (((w.alloc (.cells (cellsOf q) 23)).alloc (.cells (cellsOf p) 23)).alloc (.cells (cellsOf c) 23)) wr) (fun i _ => 6 - (intOf i).toNat)
  case atStart => exact ⟨0, by omega, rfl, (by repeat (first | exact Grow.refl _ | refine Grow.plus ?_ _ | refine Grow.alloc ?_ _ | refine Grow.drew ?_))⟩
  case round =>
    obtain ⟨k, hk, rfl, x, rfl⟩ := hrel
    by_cases hlt : k < 6
    · have bq := goodL_gt GQ.out k
      have h1 := HLE.out k hlt
      by_cases h5 : k < 5
      · have h2 := HOWN.out k h5
        have d1 : decide (gt q k < 0) = false := by simp; omega
        have d2 : decide (gt p k < gt q k) = false := by simp; omega
        have d3 : decide ((k : Int) < 5) = true := by simp; omega
        have d4 : decide (gt q k < gt c k) = false := by simp; omega
        go_wp2_with fail
        refine wp_region_grow (by kernel_rfl) (by kernel_rfl) ?_; (repeat (go_big_quiet_step ( fail ))); refine wpQuiet_nil ?_; rintro _ ⟨nx, rfl⟩
        go_wp2_with fail
        go_roundw
        case rel => exact ⟨k + 1, by omega, by go_num, (by repeat (first | exact Grow.refl _ | refine Grow.plus ?_ _ | refine Grow.alloc ?_ _ | refine Grow.drew ?_))⟩
        case measure => simp [intOf]; omega
      · have d1 : decide (gt q k < 0) = false := by simp; omega
        have d2 : decide (gt p k < gt q k) = false := by simp; omega
        have d3 : decide ((k : Int) < 5) = false := by simp; omega
        go_wp2_with fail
        refine wp_region_grow (by kernel_rfl) (by kernel_rfl) ?_; (repeat (go_big_quiet_step ( fail ))); refine wpQuiet_nil ?_; rintro _ ⟨nx, rfl⟩
        go_wp2_with fail
        go_roundw
        case rel => exact ⟨k + 1, by omega, by go_num, (by repeat (first | exact Grow.refl _ | refine Grow.plus ?_ _ | refine Grow.alloc ?_ _ | refine Grow.drew ?_))⟩
        case measure => simp [intOf]; omega
    · go_wp2_with fail
      refine wp_region_grow (by kernel_rfl) (by kernel_rfl) ?_; (repeat (go_big_quiet_step ( (go_at_call 24; refine Calls.grow2 (refTotal_any _ (by assumption) ?_ _); first | exact GQ.out | exact GC.out) ))); refine wpQuiet_nil ?_; rintro _ ⟨nx, rfl⟩
      go_wp2_with fail
      go_ret
      exact ⟨ret_bool (by have := HS.out; simp [this]), (by repeat (first | exact Grow.refl _ | refine Grow.plus ?_ _ | refine Grow.alloc ?_ _ | refine Grow.drew ?_))⟩
end Go.Proofs.Ytondnigiepkobaa
