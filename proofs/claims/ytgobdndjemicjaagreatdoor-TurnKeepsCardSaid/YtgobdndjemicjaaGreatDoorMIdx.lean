/-
  Which row of hits is the first of nothing.
-/
import Derived.Test.YtgobdndjemicjaaGreatDoorMHitR
namespace Go.Proofs.YtgobdndjemicjaaGreatDoor
open Go Go.RowKit

theorem zero_any (w : World) (h : List Int) (h3 : h.length = 3) : Calls Tryz.prog 218 #[.agg (cellsOf h)] w fun e w' => e = .returned (.bool (gt h 2 == 0)) ∧ Grow w w' := by
  go_enter Tryz.func218, Tryz.ntmps218
  go_wp2_with fail
  go_ret
  exact ⟨rfl, grI⟩
set_option maxRecDepth 100000 in
set_option maxHeartbeats 1000000 in
theorem idx_none (w : World) (s : Sl) (rows : List (List Int)) (R : Rows' w s 3 rows) (hb : rows.length ≤ 4194304) (hall : ∀ m, m < rows.length → (gt (rowAt rows m) 2 == 0) = false) :
    Calls Tryz.prog 252 #[s.val, .func (.func 218) #[] #[]] w fun e w' => e = .returned (.int .i64 (-1)) ∧ Grow w w' := by
  have hsn := R.len
  have HA := Lib.hid hall
  clear hall
  go_enter Tryz.func252, Tryz.ntmps252
  go_wp2_with fail
  go_loopw [8] (fun i wr => ∃ k : Nat, k ≤ rows.length ∧ i = .int .i64 k ∧ Grow w wr) (fun i _ => rows.length - (intOf i).toNat)
  case atStart => exact ⟨0, by omega, rfl, grI⟩
  case round =>
    obtain ⟨k, hk, rfl, x, rfl⟩ := hrel
    by_cases hlt : k < rows.length
    · obtain ⟨q1, q2, q3, q4, _⟩ := R.at (by decide) k hlt
      have hz := HA.out k hlt
      generalize rowAt rows k = row at *
      go_wp2_with (go_at_call 218; refine (zero_any _ row q2).mono ?_; rintro e' w' ⟨rfl, nz, rfl⟩)
      go_roundw
      case rel => exact ⟨k + 1, by omega, by go_num, grI⟩
      case measure => simp [intOf]; omega
    · go_wp2_with fail
      go_ret
      exact ⟨rfl, grI⟩
set_option maxRecDepth 100000 in
set_option maxHeartbeats 1000000 in
theorem idx_some (w : World) (s : Sl) (rows : List (List Int)) (R : Rows' w s 3 rows) (hb : rows.length ≤ 4194304) (k0 : Nat) (hk0 : k0 < rows.length) (hz0 : (gt (rowAt rows k0) 2 == 0) = true) (hall : ∀ m, m < k0 → (gt (rowAt rows m) 2 == 0) = false) :
    Calls Tryz.prog 252 #[s.val, .func (.func 218) #[] #[]] w fun e w' => e = .returned (.int .i64 (k0 : Int)) ∧ Grow w w' := by
  have hsn := R.len
  have HA := Lib.hid hall
  have HZ := Lib.hid hz0
  clear hall hz0
  go_enter Tryz.func252, Tryz.ntmps252
  go_wp2_with fail
  go_loopw [8] (fun i wr => ∃ k : Nat, k ≤ k0 ∧ i = .int .i64 k ∧ Grow w wr) (fun i _ => rows.length - (intOf i).toNat)
  case atStart => exact ⟨0, by omega, rfl, grI⟩
  case round =>
    obtain ⟨k, hk, rfl, x, rfl⟩ := hrel
    have hlt : k < rows.length := by omega
    obtain ⟨q1, q2, q3, q4, _⟩ := R.at (by decide) k hlt
    by_cases hkk : k < k0
    · have hz := HA.out k hkk
      generalize rowAt rows k = row at *
      go_wp2_with (go_at_call 218; refine (zero_any _ row q2).mono ?_; rintro e' w' ⟨rfl, nz, rfl⟩)
      go_roundw
      case rel => exact ⟨k + 1, by omega, by go_num, grI⟩
      case measure => simp [intOf]; omega
    · have hke : k = k0 := by omega
      have hz : (gt (rowAt rows k) 2 == 0) = true := by rw [hke]; exact HZ.out
      have HKE := Lib.hid hke
      clear hke
      generalize rowAt rows k = row at *
      go_wp2_with (go_at_call 218; refine (zero_any _ row q2).mono ?_; rintro e' w' ⟨rfl, nz, rfl⟩)
      go_ret
      exact ⟨ret_int (by rw [HKE.out]), grI⟩
end Go.Proofs.YtgobdndjemicjaaGreatDoor
