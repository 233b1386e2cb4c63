/-
  The walks of Num, Is, alive, and of the law PayPays.
-/
import Derived.Test.YtondnigiepkobaaPay4
import Derived.Test.YtondnigiepkobaaPayLaw
namespace Go.Proofs.Ytondnigiepkobaa
open Go Go.RowKit

@[go_sem] theorem assert_Errno (n : Int) (w : World) : (Instr.typeAssert (.iface 37 (.int .i64 n)) 26 37 true).run Try.prog w = .ok (.tuple #[.int .i64 n, .bool true]) w := by kernel_rfl

set_option maxHeartbeats 400000 in
theorem num_nil (w : World) : Calls Try.prog 10 #[.nilIface] w fun e w' => e = .returned (.int .i64 0) ∧ w = w' := by
  go_enter Try.func10, Try.ntmps10
  go_wp2
  go_ret
  exact ⟨rfl, rfl⟩

set_option maxHeartbeats 400000 in
theorem num_err (n : Int) (hn : (n == 0) = false) (w : World) : Calls Try.prog 10 #[.iface 37 (.int .i64 n)] w fun e w' => e = .returned (.int .i64 n) ∧ w = w' := by
  have hn' : (n != 0) = true := by simpa [bne] using hn
  go_enter Try.func10, Try.ntmps10
  go_wp2
  go_ret
  exact ⟨rfl, rfl⟩

set_option maxHeartbeats 400000 in
theorem is_nil (k : Int) (w : World) : Calls Try.prog 15 #[.nilIface, .int .i64 k] w fun e w' => e = .returned (.bool (0 == k)) ∧ w = w' := by
  go_enter Try.func15, Try.ntmps15
  go_wp2_with (go_at_call 10; refine (num_nil _).mono ?_; rintro e w' ⟨rfl, rfl⟩)
  go_ret
  exact ⟨rfl, rfl⟩

set_option maxHeartbeats 400000 in
theorem is_err (n k : Int) (hn : (n == 0) = false) (w : World) : Calls Try.prog 15 #[.iface 37 (.int .i64 n), .int .i64 k] w fun e w' => e = .returned (.bool (n == k)) ∧ w = w' := by
  go_enter Try.func15, Try.ntmps15
  go_wp2_with (go_at_call 10; refine (num_err _ hn _).mono ?_; rintro e w' ⟨rfl, rfl⟩)
  go_ret
  exact ⟨rfl, rfl⟩

set_option maxHeartbeats 400000 in
theorem alive_any (w : World) : Calls Try.prog 7 #[] w fun e w' => e = .returned (.bool true) ∧ Grow w w' := by
  have h1 : (payL [2, 1, 0, 0, 0, 2] [1, 0, 0, 0, 0, 2]).1 = [1, 1, 0, 0, 0, 0] := by decide
  have h2 : (payL [2, 1, 0, 0, 0, 2] [1, 0, 0, 0, 0, 2]).2 = [1, 0, 0, 0, 0, 2] := by decide
  go_enter Try.func7, Try.ntmps7
  go_wp2_with (go_at_call 8; refine (pay_yes [2, 1, 0, 0, 0, 2] [1, 0, 0, 0, 0, 2] rfl rfl (by decide) _).mono ?_; rintro e w' ⟨rfl, nx, rfl⟩)
  go_ret
  exact ⟨rfl, (by repeat (first | exact Grow.refl _ | refine Grow.plus ?_ _ | refine Grow.alloc ?_ _ | refine Grow.drew ?_))⟩

theorem payPays_yes (p c : List Int) (hp : p.length = 6) (hc : c.length = 6) (hcan : canL p c = true) (w : World) :
    Calls Try.prog 3 #[.agg (cellsOf p), .agg (cellsOf c)] w fun e w' => e = .returned (.bool true) ∧ Grow w w' := by
  have href := payL_ref hp hc hcan
  have e1 : lessTo p (refPaid p c) 6 = (payL p c).1 := by rw [href]
  have e2 : refPaid p c = (payL p c).2 := by rw [href]
  have hy := fun w => refPay_yes p c hp hc hcan w
  rw [e1, e2] at hy
  have HY := Lib.hid hy
  have HC := Lib.hid hcan
  have l1 : (payL p c).1.length = 6 := (payInv_all hp hc hcan _ (Nat.le_refl _)).1.lr
  have l2 : (payL p c).2.length = 6 := (payInv_all hp hc hcan _ (Nat.le_refl _)).1.lq
  clear href e1 e2 hy
  go_enter Try.func3, Try.ntmps3
  go_wp2_with (first | (go_at_call 7; refine (alive_any _).mono ?_; rintro e w' ⟨rfl, nx, rfl⟩) | (go_at_call 8; refine (pay_yes p c hp hc HC.out _).mono ?_; rintro e w' ⟨rfl, nx, rfl⟩) | (go_at_call 9; refine (HY.out _).mono ?_; rintro e w' ⟨rfl, nx, rfl⟩))
  refine wp_region_grow (by kernel_rfl) (by kernel_rfl) ?_; (repeat (go_big_quiet_step ( first | (go_at_call 10; refine Calls.grow ((num_nil _).mono fun e w' h => ⟨h.1, by rw [← h.2]; exact Grow.refl _⟩)) | (go_at_call 11; refine Calls.grow (can_any p c hp hc _)) | (go_at_call 12; refine Calls.grow (refCan_any p c hp hc _)) ))); refine wpQuiet_nil ?_; rintro _ ⟨nx, rfl⟩
  go_wp2_with fail
  go_ret
  exact ⟨ret_bool (by simp), (by repeat (first | exact Grow.refl _ | refine Grow.plus ?_ _ | refine Grow.alloc ?_ _ | refine Grow.drew ?_))⟩

theorem payPays_no (p c : List Int) (hp : p.length = 6) (hc : c.length = 6) (hcan : canL p c = false) (w : World) :
    Calls Try.prog 3 #[.agg (cellsOf p), .agg (cellsOf c)] w fun e w' => e = .returned (.bool true) ∧ Grow w w' := by
  by_cases hg : (goodL p && goodL c) = true
  · have GP := Lib.hid (and_parts hg).1
    have GC := Lib.hid (and_parts hg).2
    have HC := Lib.hid hcan
    clear hg
    go_enter Try.func3, Try.ntmps3
    go_wp2_with (first | (go_at_call 7; refine (alive_any _).mono ?_; rintro e w' ⟨rfl, nx, rfl⟩) | (go_at_call 8; refine (pay_cant p c hp hc GP.out GC.out HC.out _).mono ?_; rintro e w' ⟨rfl, nx, rfl⟩) | (go_at_call 9; refine (refPay_cant p c hp hc GP.out GC.out HC.out _).mono ?_; rintro e w' ⟨rfl, nx, rfl⟩))
    refine wp_region_grow (by kernel_rfl) (by kernel_rfl) ?_; (repeat (go_big_quiet_step ( first | (go_at_call 10; refine Calls.grow ((num_err 10 rfl _).mono fun e w' h => ⟨h.1, by rw [← h.2]; exact Grow.refl _⟩)) | (go_at_call 11; refine Calls.grow (can_any p c hp hc _)) | (go_at_call 12; refine Calls.grow (refCan_any p c hp hc _)) ))); refine wpQuiet_nil ?_; rintro _ ⟨nx, rfl⟩
    go_wp2_with fail
    go_ret
    exact ⟨ret_bool (by simp), (by repeat (first | exact Grow.refl _ | refine Grow.plus ?_ _ | refine Grow.alloc ?_ _ | refine Grow.drew ?_))⟩
  · have hg' : (goodL p && goodL c) = false := by simpa using hg
    have HG := Lib.hid hg'
    clear hg hg'
    go_enter Try.func3, Try.ntmps3
    go_wp2_with (first | (go_at_call 7; refine (alive_any _).mono ?_; rintro e w' ⟨rfl, nx, rfl⟩) | (go_at_call 8; refine (pay_bad p c hp hc HG.out _).mono ?_; rintro e w' ⟨rfl, nx, rfl⟩) | (go_at_call 9; refine (refPay_bad p c hp hc HG.out _).mono ?_; rintro e w' ⟨rfl, nx, rfl⟩))
    refine wp_region_grow (by kernel_rfl) (by kernel_rfl) ?_; (repeat (go_big_quiet_step ( first | (go_at_call 10; refine Calls.grow ((num_err 2 rfl _).mono fun e w' h => ⟨h.1, by rw [← h.2]; exact Grow.refl _⟩)) | (go_at_call 11; refine Calls.grow (can_any p c hp hc _)) | (go_at_call 12; refine Calls.grow (refCan_any p c hp hc _)) ))); refine wpQuiet_nil ?_; rintro _ ⟨nx, rfl⟩
    go_wp2_with fail
    go_ret
    exact ⟨ret_bool (by simp), (by repeat (first | exact Grow.refl _ | refine Grow.plus ?_ _ | refine Grow.alloc ?_ _ | refine Grow.drew ?_))⟩

theorem payPays_any (p c : List Int) (hp : p.length = 6) (hc : c.length = 6) (w : World) :
    Calls Try.prog 3 #[.agg (cellsOf p), .agg (cellsOf c)] w fun e w' => e = .returned (.bool true) ∧ Grow w w' := by
  cases h : canL p c with
  | true => exact payPays_yes p c hp hc h w
  | false => exact payPays_no p c hp hc h w
end Go.Proofs.Ytondnigiepkobaa
