/-
  The walk of event's Do: an object's field; all together.
-/
import Derived.Test.YtmmkmhpchoelkaaDoorDo
namespace Go.Proofs.YtmmkmhpchoelkaaDoor
open Go Go.RowKit

theorem done_objs {w w' : World} {b : Nat} {V : SV} {S : St} {rest : Array Value} (H : Host w b V S rest) (objs : List (List Int)) (so : Sl) (g : Grow (w.setRow b (hoA { V with objs := so } S.num rest)) w') (R : Rows' w' so 18 objs) (hso : ∀ k, so.owns k → w.heap.size ≤ k ∧ k < w'.heap.size) :
    Done w b V rest { S with objs := objs } w' := by
  have hp : Put b (hoA { V with objs := so } S.num rest) w w' := g
  have hr := H.rep.kept hp.kept (fun k hk h => H.apart (by rw [← h]; exact hk))
  refine ⟨{ V with objs := so }, g, ⟨R, hr.list⟩, ?_⟩
  rintro k (hk | ⟨z, hz, hk⟩)
  · exact Or.inr (hso k hk)
  · exact Or.inl (Or.inr ⟨z, hz, hk⟩)
set_option maxRecDepth 100000 in
set_option maxHeartbeats 2000000 in
theorem do_obj (S : St) (V : SV) (b : Nat) (rest : Array Value) (e : List Int) (he : e.length = 6) (w : World) (H : Host w b V S rest) (hS : Small S) (hc : evCheck e = 0) (hk : gt e 0 = 2) (a f : Nat) (h1 : gt e 1 = a) (h2 : gt e 2 = f) (hf : f < 18) :
    Calls Tryd.prog 52 #[.pointer (some ⟨b, 0, none⟩), .agg (cellsOf e)] w (DoPost w b V rest (if S.objs.length ≤ a then .error 4 else if gt (rowAt S.objs a) f ≠ gt e 3 then .error 20 else .ok (S.setObj a f (gt e 4)))) := by
  have hck := fun W => evCheck_any e he W
  rw [hc, errV_0] at hck
  have HC := Lib.hid hck
  have HH := Lib.hid H
  have hN := H.rep.objs.len
  have hSO := hS.objs
  have hcell := cell_of_blk (H).free (H).blk; have hfz := frozen_of_free (H).free; have hset := setCell_of_blk (H).free (H).blk; have hblk := (H).blk; have hfree := (H).free; have hlt := (H).lt; have hne1 : ¬ b = (w).heap.size := (by omega); have hne2 : ¬ (w).heap.size = b := (by omega)
  have HF := Lib.hid hfree
  clear hck hc H hS
  have i3 : (f : Int) < 18 := by omega
  have i4 : (0 : Int) ≤ (f : Int) := by omega
  by_cases hA : S.objs.length ≤ a
  · rw [if_pos hA]
    have hlen : ((S.objs.length : Int) ≤ (a : Int)) := by omega
    go_enter Tryd.func52, Tryd.ntmps52
    go_wp2_with (go_at_call 53; refine (HC.out _).mono ?_; rintro e' w' ⟨rfl, nx, rfl⟩)
    refine wp_region_grow (by kernel_rfl) (by kernel_rfl) ?_; (repeat (go_big_quiet_step ( fail ))); refine wpQuiet_nil ?_; rintro _ ⟨nx, rfl⟩
    go_wp2_with fail
    go_ret
    exact ⟨rfl, (by repeat (first | exact Grow.refl _ | refine Grow.andr ?_ | refine Grow.plus ?_ _ | refine Grow.alloc ?_ _ | refine Grow.drew ?_ | refine Grow.drewN ?_ _))⟩
  rw [if_neg hA]
  have hlen : ¬ ((S.objs.length : Int) ≤ (a : Int)) := by omega
  have i1 : (a : Int) < S.objs.length := by omega
  have i2 : (0 : Int) ≤ (a : Int) := by omega
  by_cases hx : gt (rowAt S.objs a) f = gt e 3
  · rw [if_neg (fun h => h hx)]
    have HX := Lib.hid hx
    clear hx
    go_enter Tryd.func52, Tryd.ntmps52
    go_wp2_with (go_at_call 53; refine (HC.out _).mono ?_; rintro e' w' ⟨rfl, nx, rfl⟩)
    refine wp_region_grow (by kernel_rfl) (by kernel_rfl) ?_; (repeat (go_big_quiet_step ( fail ))); refine wpQuiet_nil ?_; rintro _ ⟨nx, rfl⟩
    go_wp2_with fail
    go_at_call 51
    refine (cloned_objs _ V.objs S.objs (HH.out.rep.objs.grow (by repeat (first | exact Grow.refl _ | refine Grow.andr ?_ | refine Grow.plus ?_ _ | refine Grow.alloc ?_ _ | refine Grow.drew ?_ | refine Grow.drewN ?_ _))) hSO).mono ?_
    rintro e' w' ⟨so, rfl, hO, _, hg⟩
    have hbo : ∀ k, so.owns k → w.heap.size + 1 ≤ k ∧ k < w'.heap.size := fun k hk => ⟨Nat.le_trans (by simp only [plus_size, alloc_size']; omega) (hO.lt k hk).1, (hO.lt k hk).2⟩
    obtain ⟨p, rfl⟩ : Grow (w.alloc (.cells (cellsOf e) 42)) w' := Grow.trans (by repeat (first | exact Grow.refl _ | refine Grow.andr ?_ | refine Grow.plus ?_ _ | refine Grow.alloc ?_ _ | refine Grow.drew ?_ | refine Grow.drewN ?_ _)) hg
    have hR5 : Rows' ((w.alloc (.cells (cellsOf e) 42)).plus p) so 18 S.objs := hO.rows (by omega) HH.out.rep.objs.wid
    have hson : so.n = S.objs.length := hR5.len
    have HOB := Lib.hid (owns_ofR hR5 (by omega))
    have HO := Lib.hid hO
    have HR5 := Lib.hid hR5
    have HBO := Lib.hid hbo
    clear hO hR5 hbo hg
    go_wp2_with fail
    refine wp_region_order [0, 1, 2, 3, 4, 5, 6, 7] 8 [9] (by kernel_rfl) (by kernel_rfl) ?_; simp only [pickO, List.getElem?_cons_zero, List.getElem?_cons_succ]; (repeat (go_big_quiet_step ( fail ))); refine wpQuiet_nil ?_; rintro _ ⟨nx, rfl⟩
    go_wp2_with (go_at_call 86; refine (set_yes e he so.b (so.o + a * 18 + f) _ _ (cell_blk ((HR5.out.grow (by repeat (first | exact Grow.refl _ | refine Grow.andr ?_ | refine Grow.plus ?_ _ | refine Grow.alloc ?_ _ | refine Grow.drew ?_ | refine Grow.drewN ?_ _))).cell a f (by omega) hf)).1 ((HR5.out.grow (by repeat (first | exact Grow.refl _ | refine Grow.andr ?_ | refine Grow.plus ?_ _ | refine Grow.alloc ?_ _ | refine Grow.drew ?_ | refine Grow.drewN ?_ _))).cell a f (by omega) hf) (by rw [Nat.add_assoc]; exact ((HO.out.grow (by repeat (first | exact Grow.refl _ | refine Grow.andr ?_ | refine Grow.plus ?_ _ | refine Grow.alloc ?_ _ | refine Grow.drew ?_ | refine Grow.drewN ?_ _))).room.there (a * 18 + f) (by have := HR5.out.cap; rw [HR5.out.len] at this; omega)).2) HX.out).mono ?_; rintro r w' ⟨rfl, hG⟩; have hR6 := ((HR5.out.grow (by repeat (first | exact Grow.refl _ | refine Grow.andr ?_ | refine Grow.plus ?_ _ | refine Grow.alloc ?_ _ | refine Grow.drew ?_ | refine Grow.drewN ?_ _))).setObj a f (gt e 4) (by omega) hf).grow hG; obtain ⟨p2, rfl⟩ : Grow (w.alloc (.cells (cellsOf e) 42)) w' := Grow.trans ((Kept.setCell (own := fun k => k = so.b) (Grow.kept _ (by repeat (first | exact Grow.refl _ | refine Grow.andr ?_ | refine Grow.plus ?_ _ | refine Grow.alloc ?_ _ | refine Grow.drew ?_ | refine Grow.drewN ?_ _))) so.b _ _ (fun _ => rfl)).grow (fun k hk h => by have h : k = so.b := h; have := (HBO.out _ HOB.out).1; rw [alloc_size'] at hk; omega)) hG; have HR6 := Lib.hid hR6; have HSZ := Lib.hid hG.size; clear hR6 hG)
    go_ret
    refine ⟨rfl, done_objs HH.out _ so (by repeat (first | exact Grow.refl _ | refine Grow.andr ?_ | refine Grow.plus ?_ _ | refine Grow.alloc ?_ _ | refine Grow.drew ?_ | refine Grow.drewN ?_ _)) ((HR6.out.off (b := b) (W' := ((w.setRow b (hoA { V with objs := so } S.num rest)).alloc (.cells (cellsOf e) 42)).plus p2) (by repeat (first | exact Off.setRow2 _ _ _ _ | exact Off.setRow _ _ _ | refine Off.plus ?_ _ | refine Off.alloc ?_ _)) (fun _ h => by have := (HBO.out _ HOB.out).1; omega)).grow (by repeat (first | exact Grow.refl _ | refine Grow.andr ?_ | refine Grow.plus ?_ _ | refine Grow.alloc ?_ _ | refine Grow.drew ?_ | refine Grow.drewN ?_ _))) (fun k hk => ?_)⟩
    have h1 := HBO.out k hk
    have h2 := HSZ.out
    simp only [World.setCell, Array.size_modify, plus_size, alloc_size', size_setRow, Ext.and, Array.size_append] at h1 h2 ⊢
    exact ⟨by omega, by omega⟩
  · rw [if_pos hx]
    have HX := Lib.hid hx
    clear hx
    go_enter Tryd.func52, Tryd.ntmps52
    go_wp2_with (go_at_call 53; refine (HC.out _).mono ?_; rintro e' w' ⟨rfl, nx, rfl⟩)
    refine wp_region_grow (by kernel_rfl) (by kernel_rfl) ?_; (repeat (go_big_quiet_step ( fail ))); refine wpQuiet_nil ?_; rintro _ ⟨nx, rfl⟩
    go_wp2_with fail
    go_at_call 51
    refine (cloned_objs _ V.objs S.objs (HH.out.rep.objs.grow (by repeat (first | exact Grow.refl _ | refine Grow.andr ?_ | refine Grow.plus ?_ _ | refine Grow.alloc ?_ _ | refine Grow.drew ?_ | refine Grow.drewN ?_ _))) hSO).mono ?_
    rintro e' w' ⟨so, rfl, hO, _, hg⟩
    have hbo : ∀ k, so.owns k → w.heap.size + 1 ≤ k ∧ k < w'.heap.size := fun k hk => ⟨Nat.le_trans (by simp only [plus_size, alloc_size']; omega) (hO.lt k hk).1, (hO.lt k hk).2⟩
    obtain ⟨p, rfl⟩ : Grow (w.alloc (.cells (cellsOf e) 42)) w' := Grow.trans (by repeat (first | exact Grow.refl _ | refine Grow.andr ?_ | refine Grow.plus ?_ _ | refine Grow.alloc ?_ _ | refine Grow.drew ?_ | refine Grow.drewN ?_ _)) hg
    have hR5 : Rows' ((w.alloc (.cells (cellsOf e) 42)).plus p) so 18 S.objs := hO.rows (by omega) HH.out.rep.objs.wid
    have hson : so.n = S.objs.length := hR5.len
    have HOB := Lib.hid (owns_ofR hR5 (by omega))
    have HO := Lib.hid hO
    have HR5 := Lib.hid hR5
    have HBO := Lib.hid hbo
    clear hO hR5 hbo hg
    go_wp2_with fail
    refine wp_region_order [0, 1, 2, 3, 4, 5, 6, 7] 8 [9] (by kernel_rfl) (by kernel_rfl) ?_; simp only [pickO, List.getElem?_cons_zero, List.getElem?_cons_succ]; (repeat (go_big_quiet_step ( fail ))); refine wpQuiet_nil ?_; rintro _ ⟨nx, rfl⟩
    go_wp2_with (go_at_call 86; refine (set_no e he so.b (so.o + a * 18 + f) _ _ (cell_blk ((HR5.out.grow (by repeat (first | exact Grow.refl _ | refine Grow.andr ?_ | refine Grow.plus ?_ _ | refine Grow.alloc ?_ _ | refine Grow.drew ?_ | refine Grow.drewN ?_ _))).cell a f (by omega) hf)).1 ((HR5.out.grow (by repeat (first | exact Grow.refl _ | refine Grow.andr ?_ | refine Grow.plus ?_ _ | refine Grow.alloc ?_ _ | refine Grow.drew ?_ | refine Grow.drewN ?_ _))).cell a f (by omega) hf) (by rw [Nat.add_assoc]; exact ((HO.out.grow (by repeat (first | exact Grow.refl _ | refine Grow.andr ?_ | refine Grow.plus ?_ _ | refine Grow.alloc ?_ _ | refine Grow.drew ?_ | refine Grow.drewN ?_ _))).room.there (a * 18 + f) (by have := HR5.out.cap; rw [HR5.out.len] at this; omega)).2) HX.out).mono ?_; rintro r w' ⟨rfl, nq, rfl⟩)
    go_ret
    exact ⟨rfl, (by repeat (first | exact Grow.refl _ | refine Grow.andr ?_ | refine Grow.plus ?_ _ | refine Grow.alloc ?_ _ | refine Grow.drew ?_ | refine Grow.drewN ?_ _))⟩
theorem do_any (S : St) (V : SV) (b : Nat) (rest : Array Value) (e : List Int) (he : e.length = 6) (w : World) (H : Host w b V S rest) (hS : Small S) :
    Calls Tryd.prog 52 #[.pointer (some ⟨b, 0, none⟩), .agg (cellsOf e)] w (DoPost w b V rest (doEv S e)) := by
  unfold doEv
  by_cases hc : evCheck e = 0
  · rw [if_neg (fun h => h hc)]
    obtain ⟨c1, c2, c3⟩ : inR (gt e 0) 6 = true ∧ evSpare e = true ∧ evRanges e = true := by
      unfold evCheck at hc
      by_cases c1 : inR (gt e 0) 6 = false
      · rw [if_pos c1] at hc; cases hc
      rw [if_neg c1] at hc
      by_cases c2 : evSpare e = false
      · rw [if_pos c2] at hc; cases hc
      rw [if_neg c2] at hc
      by_cases c3 : evRanges e = false
      · rw [if_pos c3] at hc; cases hc
      exact ⟨by simpa using c1, by simpa using c2, by simpa using c3⟩
    have k6 : 0 ≤ gt e 0 ∧ gt e 0 < 6 := by simpa [inR] using c1
    by_cases k0 : gt e 0 = 0
    · rw [if_pos k0]; exact do_make S V b rest e he w H hS hc k0
    rw [if_neg k0]
    by_cases k5 : gt e 0 = 5
    · rw [if_pos k5]; exact do_unmake S V b rest e he w H hS hc k5
    rw [if_neg k5]
    unfold evRanges at c3
    rw [if_neg (by omega)] at c3
    by_cases k1 : gt e 0 = 1
    · rw [if_pos k1]
      rw [if_pos k1] at c3
      have c4 : 0 ≤ gt e 1 ∧ (0 ≤ gt e 2 ∧ gt e 2 < 11) ∧ (0 ≤ gt e 4 ∧ gt e 4 < 11) ∧ 0 ≤ gt e 3 ∧ 0 ≤ gt e 5 := by
        simp only [inR, Bool.and_eq_true, decide_eq_true_eq] at c3; omega
      exact do_move S V b rest e he w H hS hc k1 _ _ _ _ _ ⟨he, by omega, by omega, by omega, by omega, by omega, by omega, by omega⟩
    rw [if_neg k1]
    rw [if_neg k1] at c3
    by_cases k2 : gt e 0 = 2
    · rw [if_pos k2]
      rw [if_pos k2] at c3
      have c4 : 0 ≤ gt e 1 ∧ (0 ≤ gt e 2 ∧ gt e 2 < 18) := by
        simp only [inR, Bool.and_eq_true, decide_eq_true_eq] at c3; omega
      have := do_obj S V b rest e he w H hS hc k2 (gt e 1).toNat (gt e 2).toNat (by omega) (by omega) (by omega)
      have hle : ((S.objs.length : Int) ≤ gt e 1) ↔ S.objs.length ≤ (gt e 1).toNat := by omega
      simp only [hle]
      exact this
    rw [if_neg k2]
    rw [if_neg k2] at c3
    by_cases k3 : gt e 0 = 3
    · rw [if_pos k3] at c3
      have c4 : (0 ≤ gt e 1 ∧ gt e 1 < 2) ∧ (0 ≤ gt e 2 ∧ gt e 2 < 9) := by
        simp only [inR, Bool.and_eq_true, decide_eq_true_eq] at c3; omega
      have := do_player S V b rest e he w H hS hc k3 (gt e 1).toNat (gt e 2).toNat (by omega) (by omega) (by omega) (by omega)
      simp only [if_pos k3]
      exact this
    · rw [if_neg k3] at c3
      have c4 : 0 ≤ gt e 2 ∧ gt e 2 < 7 := by
        simp only [inR, Bool.and_eq_true, decide_eq_true_eq] at c3; omega
      have := do_game S V b rest e he w H hS hc (by omega) (gt e 2).toNat (by omega) (by omega)
      simp only [if_neg k3]
      exact this
  · rw [if_pos hc]
    exact do_bad V b rest e he w hc
end Go.Proofs.YtmmkmhpchoelkaaDoor
