/-
  The walk of event's move where the place is none.
-/
import Derived.Test.YtmmkmhpchoelkaaDoorEv5
namespace Go.Proofs.YtmmkmhpchoelkaaDoor
open Go Go.RowKit
attribute [local go_sem ↓] Go.wp_at_zero Go.wp_at_succ

set_option maxRecDepth 100000 in
set_option maxHeartbeats 2000000 in
theorem move_range (S : St) (V : SV) (b : Nat) (rest : Array Value) (e : List Int) (a bz c dz ei : Nat) (E : MoveEv e a bz c dz ei) (w : World) (H : Host w b V S rest) (hS : Small S) (hA : a < S.objs.length) (hC : c < (S.list bz).length) (hx : gt (S.list bz) c = a) (hE : (moveTo S bz c dz).length < ei) :
    Calls Tryd.prog 85 #[.pointer (some ⟨b, 0, none⟩), .agg (cellsOf e)] w fun r w' => r = .returned (errV 1) ∧ Grow w w' := by
  have hN := H.rep.objs.len
  have HH := Lib.hid H
  obtain ⟨he, q1, q2, q3, q4, q5, hb', hd'⟩ := E
  have hlb := hS.list bz hb'
  have hSO := hS.objs
  have hlB := (H.rep.list bz hb').len
  have hbI : (bz : Int) < 11 := by omega
  have hbJ : (0 : Int) ≤ (bz : Int) := by omega
  have hcell := cell_of_blk (H).free (H).blk; have hfz := frozen_of_free (H).free; have hset := setCell_of_blk (H).free (H).blk; have hblk := (H).blk; have hfree := (H).free; have hlt := (H).lt; have hne1 : ¬ b = (w).heap.size := (by omega); have hne2 : ¬ (w).heap.size = b := (by omega)
  have HS := Lib.hid hS
  clear H hS
  have hlen : ¬ ((S.objs.length : Int) ≤ (a : Int)) := by omega
  have hdI : (dz : Int) < 11 := by omega
  have hdJ : (0 : Int) ≤ (dz : Int) := by omega
  have aI : (a : Int) < S.objs.length := by omega
  have aJ : (0 : Int) ≤ (a : Int) := by omega
  by_cases hdb : dz = bz
  · subst hdb
    have hno : ∀ s1 : Sl, s1.n = ((S.list dz).eraseIdx c).length → inR (ei : Int) (s1.n + 1) = false := fun s1 h => by
      have h2 : ((S.list dz).eraseIdx c).length < ei := by unfold moveTo at hE; rw [if_pos rfl] at hE; exact hE
      simp [inR]; omega
    have HNO := Lib.hid hno
    clear hno hE
    go_enter Tryd.func85, Tryd.ntmps85
    go_wp2_with fail
    refine wp_region_grow (by kernel_rfl) (by kernel_rfl) ?_; (repeat (go_big_quiet_step ( fail ))); refine wpQuiet_nil ?_; rintro _ ⟨nx, rfl⟩
    go_wp2_with fail
    go_region_with (go_at_call 102; refine (remove_yes _ (V.list dz) (S.list dz) c ((HH.out.rep.list dz hb').grow (by repeat (first | exact Grow.refl _ | refine Grow.andr ?_ | refine Grow.plus ?_ _ | refine Grow.alloc ?_ _ | refine Grow.drew ?_ | refine Grow.drewN ?_ _))) hC hlb).mono ?_; rintro e' w' ⟨s1, rfl, hI1, hf1, n1, rfl⟩; rw [hx]; have hn1 := Lib.hid hI1.len; clear hI1 hf1)
    all_goals
      go_wp2_with fail
      refine wp_region_grow (by kernel_rfl) (by kernel_rfl) ?_; (repeat (go_big_quiet_step ( fail ))); refine wpQuiet_nil ?_; rintro _ ⟨nx, rfl⟩
      go_wp2_with (go_at_call 103; refine (insert_no _ s1 _ _ (HNO.out s1 hn1.out)).mono ?_; rintro e' w' ⟨rfl, hww⟩; subst w')
      go_ret
      exact ⟨rfl, (by repeat (first | exact Grow.refl _ | refine Grow.andr ?_ | refine Grow.plus ?_ _ | refine Grow.alloc ?_ _ | refine Grow.drew ?_ | refine Grow.drewN ?_ _))⟩
  · have hno : inR (ei : Int) ((V.list dz).n + 1) = false := by
      have h2 : (S.list dz).length < ei := by unfold moveTo at hE; rw [if_neg hdb] at hE; exact hE
      have h3 := (HH.out.rep.list dz hd').len
      simp [inR]; omega
    have hdb2 : ((dz : Int) == (bz : Int)) = false := by simp; omega
    clear hE
    go_enter Tryd.func85, Tryd.ntmps85
    go_wp2_with fail
    refine wp_region_grow (by kernel_rfl) (by kernel_rfl) ?_; (repeat (go_big_quiet_step ( fail ))); refine wpQuiet_nil ?_; rintro _ ⟨nx, rfl⟩
    go_wp2_with fail
    go_region_with (go_at_call 102; refine (remove_yes _ (V.list bz) (S.list bz) c ((HH.out.rep.list bz hb').grow (by repeat (first | exact Grow.refl _ | refine Grow.andr ?_ | refine Grow.plus ?_ _ | refine Grow.alloc ?_ _ | refine Grow.drew ?_ | refine Grow.drewN ?_ _))) hC hlb).mono ?_; rintro e' w' ⟨s1, rfl, hI1, hf1, n1, rfl⟩; rw [hx]; have hn1 := Lib.hid hI1.len; clear hI1 hf1)
    all_goals
      go_wp2_with fail
      refine wp_region_grow (by kernel_rfl) (by kernel_rfl) ?_; (repeat (go_big_quiet_step ( fail ))); refine wpQuiet_nil ?_; rintro _ ⟨nx, rfl⟩
      go_wp2_with (go_at_call 103; refine (insert_no _ (V.list dz) _ _ hno).mono ?_; rintro e' w' ⟨rfl, hww⟩; subst w')
      go_ret
      exact ⟨rfl, (by repeat (first | exact Grow.refl _ | refine Grow.andr ?_ | refine Grow.plus ?_ _ | refine Grow.alloc ?_ _ | refine Grow.drew ?_ | refine Grow.drewN ?_ _))⟩
end Go.Proofs.YtmmkmhpchoelkaaDoor
