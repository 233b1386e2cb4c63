/-
  The walk of event's move.
-/
import Derived.Test.YtibmnofpoenonaaGreatDoorEv4
namespace Go.Proofs.YtibmnofpoenonaaGreatDoor
open Go Go.RowKit
attribute [local go_sem ↓] Go.wp_at_zero Go.wp_at_succ

/-- A move's numbers. -/
structure MoveEv (e : List Int) (a bz c dz ei : Nat) : Prop where
  len : e.length = 6
  a : gt e 1 = a
  b : gt e 2 = bz
  c : gt e 3 = c
  d : gt e 4 = dz
  e : gt e 5 = ei
  hb : bz < 11
  hd : dz < 11
set_option maxRecDepth 100000 in
set_option maxHeartbeats 2000000 in
theorem move_far (S : St) (V : SV) (b : Nat) (rest : Array Value) (e : List Int) (a bz c dz ei : Nat) (E : MoveEv e a bz c dz ei) (w : World) (H : Host w b V S rest) (hS : Small S) (hA : S.objs.length ≤ a) :
    Calls Tryz.prog 107 #[.pointer (some ⟨b, 0, none⟩), .agg (cellsOf e)] w fun r w' => r = .returned (errV 4) ∧ Grow w w' := by
  have hN := H.rep.objs.len
  have HH := Lib.hid H
  obtain ⟨he, q1, q2, q3, q4, q5, hb', hd'⟩ := E
  have hlb := hS.list bz hb'
  have hSO := hS.objs
  have hlB := (H.rep.list bz hb').len
  have hbI : (bz : Int) < 11 := by omega
  have hbJ : (0 : Int) ≤ (bz : Int) := by omega
  have hcell := cell_of_blk (H).free (H).blk; have hfz := frozen_of_free (H).free; have hset := setCell_of_blk (H).free (H).blk; have hblk := (H).blk; have hfree := (H).free; have hlt := (H).lt; have hne1 : ¬ b = (w).heap.size := (by omega); have hne2 : ¬ (w).heap.size = b := (by omega)
  clear H hS
  have hlen : ((S.objs.length : Int) ≤ (a : Int)) := by omega
  go_enter Tryz.func107, Tryz.ntmps107
  go_wp2_with fail
  refine wp_region_grow (by kernel_rfl) (by kernel_rfl) ?_; (repeat (go_big_quiet_step ( fail ))); refine wpQuiet_nil ?_; rintro _ ⟨nx, rfl⟩
  go_wp2_with fail
  go_ret
  exact ⟨rfl, (by repeat (first | exact Grow.refl _ | refine Grow.andr ?_ | refine Grow.plus ?_ _ | refine Grow.alloc ?_ _ | refine Grow.drew ?_ | refine Grow.drewN ?_ _))⟩
set_option maxRecDepth 100000 in
set_option maxHeartbeats 2000000 in
theorem move_out (S : St) (V : SV) (b : Nat) (rest : Array Value) (e : List Int) (a bz c dz ei : Nat) (E : MoveEv e a bz c dz ei) (w : World) (H : Host w b V S rest) (hS : Small S) (hA : a < S.objs.length) (hC : (S.list bz).length ≤ c) :
    Calls Tryz.prog 107 #[.pointer (some ⟨b, 0, none⟩), .agg (cellsOf e)] w fun r w' => r = .returned (errV 20) ∧ Grow w w' := by
  have hN := H.rep.objs.len
  have HH := Lib.hid H
  obtain ⟨he, q1, q2, q3, q4, q5, hb', hd'⟩ := E
  have hlb := hS.list bz hb'
  have hSO := hS.objs
  have hlB := (H.rep.list bz hb').len
  have hbI : (bz : Int) < 11 := by omega
  have hbJ : (0 : Int) ≤ (bz : Int) := by omega
  have hcell := cell_of_blk (H).free (H).blk; have hfz := frozen_of_free (H).free; have hset := setCell_of_blk (H).free (H).blk; have hblk := (H).blk; have hfree := (H).free; have hlt := (H).lt; have hne1 : ¬ b = (w).heap.size := (by omega); have hne2 : ¬ (w).heap.size = b := (by omega)
  clear H hS
  have hin : inR (c : Int) (V.list bz).n = false := by simp [inR]; omega
  have hlen : ¬ ((S.objs.length : Int) ≤ (a : Int)) := by omega
  go_enter Tryz.func107, Tryz.ntmps107
  go_wp2_with fail
  refine wp_region_grow (by kernel_rfl) (by kernel_rfl) ?_; (repeat (go_big_quiet_step ( fail ))); refine wpQuiet_nil ?_; rintro _ ⟨nx, rfl⟩
  go_wp2_with fail
  go_region_with (go_at_call 130; refine (remove_no _ _ _ hin).mono ?_; rintro e' w' ⟨rfl, hww⟩; subst w')
  all_goals
    go_wp2_with fail
    go_ret
    exact ⟨rfl, (by repeat (first | exact Grow.refl _ | refine Grow.andr ?_ | refine Grow.plus ?_ _ | refine Grow.alloc ?_ _ | refine Grow.drew ?_ | refine Grow.drewN ?_ _))⟩
set_option maxRecDepth 100000 in
set_option maxHeartbeats 2000000 in
theorem move_other (S : St) (V : SV) (b : Nat) (rest : Array Value) (e : List Int) (a bz c dz ei : Nat) (E : MoveEv e a bz c dz ei) (w : World) (H : Host w b V S rest) (hS : Small S) (hA : a < S.objs.length) (hC : c < (S.list bz).length) (hx : gt (S.list bz) c ≠ a) :
    Calls Tryz.prog 107 #[.pointer (some ⟨b, 0, none⟩), .agg (cellsOf e)] w fun r w' => r = .returned (errV 20) ∧ Grow w w' := by
  have hN := H.rep.objs.len
  have HH := Lib.hid H
  obtain ⟨he, q1, q2, q3, q4, q5, hb', hd'⟩ := E
  have hlb := hS.list bz hb'
  have hSO := hS.objs
  have hlB := (H.rep.list bz hb').len
  have hbI : (bz : Int) < 11 := by omega
  have hbJ : (0 : Int) ≤ (bz : Int) := by omega
  have hcell := cell_of_blk (H).free (H).blk; have hfz := frozen_of_free (H).free; have hset := setCell_of_blk (H).free (H).blk; have hblk := (H).blk; have hfree := (H).free; have hlt := (H).lt; have hne1 : ¬ b = (w).heap.size := (by omega); have hne2 : ¬ (w).heap.size = b := (by omega)
  clear H hS
  have hlen : ¬ ((S.objs.length : Int) ≤ (a : Int)) := by omega
  have t2 : (gt (S.list bz) c != (a : Int)) = true := by simpa using hx
  clear hx
  go_enter Tryz.func107, Tryz.ntmps107
  go_wp2_with fail
  refine wp_region_grow (by kernel_rfl) (by kernel_rfl) ?_; (repeat (go_big_quiet_step ( fail ))); refine wpQuiet_nil ?_; rintro _ ⟨nx, rfl⟩
  go_wp2_with fail
  go_region_with (go_at_call 130; refine (remove_yes _ (V.list bz) (S.list bz) c ((HH.out.rep.list bz hb').grow (by repeat (first | exact Grow.refl _ | refine Grow.andr ?_ | refine Grow.plus ?_ _ | refine Grow.alloc ?_ _ | refine Grow.drew ?_ | refine Grow.drewN ?_ _))) hC hlb).mono ?_; rintro e' w' ⟨s1, rfl, hI1, hf1, n1, rfl⟩)
  all_goals
    go_wp2_with fail
    go_ret
    exact ⟨rfl, (by repeat (first | exact Grow.refl _ | refine Grow.andr ?_ | refine Grow.plus ?_ _ | refine Grow.alloc ?_ _ | refine Grow.drew ?_ | refine Grow.drewN ?_ _))⟩
end Go.Proofs.YtibmnofpoenonaaGreatDoor
