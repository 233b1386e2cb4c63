/-
  The walk of event's create.
-/
import Derived.Test.YtibmnofpoenonaaGreatDoorEv2
import Derived.Test.YtibmnofpoenonaaGreatDoorList
import Derived.Deep.DeepCutAuto
namespace Go.Proofs.YtibmnofpoenonaaGreatDoor
open Go Go.RowKit
attribute [local go_sem ↓] Go.wp_at_zero Go.wp_at_succ

set_option maxRecDepth 100000 in
theorem create_full (S : St) (V : SV) (b : Nat) (rest : Array Value) (e : List Int) (w : World) (H : Host w b V S rest) (h : 400 ≤ S.objs.length) :
    Calls Tryz.prog 105 #[.pointer (some ⟨b, 0, none⟩), .agg (cellsOf e)] w fun r w' => r = .returned (errV 5) ∧ Grow w w' := by
  have hN := H.rep.objs.len
  have hcell := cell_of_blk (H).free (H).blk; have hfz := frozen_of_free (H).free; have hset := setCell_of_blk (H).free (H).blk; have hblk := (H).blk; have hfree := (H).free; have hlt := (H).lt; have hne1 : ¬ b = (w).heap.size := (by omega); have hne2 : ¬ (w).heap.size = b := (by omega)
  clear H
  go_enter Tryz.func105, Tryz.ntmps105
  go_wp2_with fail
  go_ret
  exact ⟨rfl, (by repeat (first | exact Grow.refl _ | refine Grow.andr ?_ | refine Grow.plus ?_ _ | refine Grow.alloc ?_ _ | refine Grow.drew ?_ | refine Grow.drewN ?_ _))⟩
set_option maxRecDepth 100000 in
set_option maxHeartbeats 2000000 in
theorem create_ok (S : St) (V : SV) (b : Nat) (rest : Array Value) (e : List Int) (he : e.length = 6) (w : World) (H : Host w b V S rest) (hS : Small S) (h : S.objs.length < 400) :
    Calls Tryz.prog 105 #[.pointer (some ⟨b, 0, none⟩), .agg (cellsOf e)] w fun r w' => r = .returned .nilIface ∧ Done w b V rest { S with objs := S.objs ++ [evMade e], list := upd S.list 10 (S.list 10 ++ [(S.objs.length : Int)]) } w' := by
  have hN := H.rep.objs.len
  have HH := Lib.hid H
  have hl10 := hS.list 10 (by omega)
  have hSO := hS.objs
  have hme : (evMade e).length = 18 := rfl
  have hl0 := (H.rep.list 10 (by omega)).len
  have hcell := cell_of_blk (H).free (H).blk; have hfz := frozen_of_free (H).free; have hset := setCell_of_blk (H).free (H).blk; have hblk := (H).blk; have hfree := (H).free; have hlt := (H).lt; have hne1 : ¬ b = (w).heap.size := (by omega); have hne2 : ¬ (w).heap.size = b := (by omega)
  clear H
  go_enter Tryz.func105, Tryz.ntmps105
  go_upto_region 3 with fail
  go_cut [] (fun wx => ∃ (s2 : Sl) (y : Ext), wx = ((w.setRow b (hoA { V with list := upd V.list 10 s2 } S.num rest)).alloc (.cells (cellsOf e) 84)).plus y ∧ Cells wx s2 1 ((S.list 10).map I ++ [I (S.objs.length : Int)]) ∧ ∀ k, s2.owns k → w.heap.size + 1 ≤ k ∧ k < wx.heap.size)
  case first =>
    go_region_law (first | (refine step_wanted (by rfl) ?_; go_simp; go_at_call 29; refine (cloned_ints _ (V.list 10) (S.list 10) ((HH.out.rep.list 10 (by omega)).grow (by repeat (first | exact Grow.refl _ | refine Grow.andr ?_ | refine Grow.plus ?_ _ | refine Grow.alloc ?_ _ | refine Grow.drew ?_ | refine Grow.drewN ?_ _))) hl10).mono ?_; rintro e w' ⟨s1, rfl, hO, _, nx, rfl⟩; (try simp only [drew_plus] at hO); (try simp only [plus_plus] at hO); have HO := Lib.hid (hO.mono (base' := w.heap.size + 1) (Nat.le_trans (Nat.le_of_eq (alloc_size' w (.cells (cellsOf e) 84)).symm) (Grow.size (by repeat (first | exact Grow.refl _ | refine Grow.andr ?_ | refine Grow.plus ?_ _ | refine Grow.alloc ?_ _ | refine Grow.drew ?_ | refine Grow.drewN ?_ _))))); clear hO) | ((refine step_append_cells (by rfl) _ _ 23 (by rfl) 3 Tryz.t3 (.int .i64 0) 1 8 Tryz.underlying23 (by kernel_rfl) (by kernel_rfl) (by kernel_rfl) (by kernel_rfl) (by omega) rfl s1 (.mk _ 0 1 1) ((S.list 10).map I) [I (S.objs.length : Int)] (by rfl) (by rfl) (HO.out.cells.grow (by repeat (first | exact Grow.refl _ | refine Grow.andr ?_ | refine Grow.plus ?_ _ | refine Grow.alloc ?_ _ | refine Grow.drew ?_ | refine Grow.drewN ?_ _))) (HO.out.room.grow (by repeat (first | exact Grow.refl _ | refine Grow.andr ?_ | refine Grow.plus ?_ _ | refine Grow.alloc ?_ _ | refine Grow.drew ?_ | refine Grow.drewN ?_ _))) (one_int _ _ _ (by go_simp)) (flat_one _) (flat_one [(S.objs.length : Int)]) (by have := HO.out.cells.ints.len; simp only [Sl.n] at this ⊢; omega) ?_); intro s2 w2 c1 c2 c3 c4 c5 c6; obtain ⟨y, rfl⟩ : Grow (w.alloc (.cells (cellsOf e) 84)) w2 := c3.grow_of (by repeat (first | exact Grow.refl _ | refine Grow.andr ?_ | refine Grow.plus ?_ _ | refine Grow.alloc ?_ _ | refine Grow.drew ?_ | refine Grow.drewN ?_ _)) (fun k hk => by rw [alloc_size']; exact (HO.out.lt k hk).1)))
    all_goals
      go_wp2_with fail
      go_meet
      refine ⟨s2, y, rfl, c1.off (b := b) (by repeat (first | exact Off.setRow2 _ _ _ _ | exact Off.setRow _ _ _ | refine Off.plus ?_ _ | refine Off.alloc ?_ _)) (fun k hk => ?_), fun k hk => ?_⟩
      · rcases c4 k hk with h | h
        · have := (HO.out.lt k h).1; omega
        · have := h.1; simp only [plus_size, alloc_size'] at this; omega
      · have h5 : k < ((w.alloc (.cells (cellsOf e) 84)).plus y).heap.size := by
          rcases c4 k hk with h | h
          · exact Nat.lt_of_lt_of_le (HO.out.lt k h).2 (Nat.le_trans (Grow.size (by repeat (first | exact Grow.refl _ | refine Grow.andr ?_ | refine Grow.plus ?_ _ | refine Grow.alloc ?_ _ | refine Grow.drew ?_ | refine Grow.drewN ?_ _))) c3.size)
          · exact h.2
        have h6 : w.heap.size + 1 ≤ k := by
          rcases c4 k hk with h | h
          · exact (HO.out.lt k h).1
          · have := h.1; simp only [plus_size, alloc_size'] at this; omega
        simp only [plus_size, alloc_size', size_setRow] at h5 ⊢
        exact ⟨h6, h5⟩
  case rest =>
    obtain ⟨s2, y, rfl, c1, c2⟩ := hcut
    have C1 := Lib.hid c1
    have C2 := Lib.hid c2
    clear c1 c2
    have hRO : Rows' (((w.setRow b (hoA { V with list := upd V.list 10 s2 } S.num rest)).alloc (.cells (cellsOf e) 84)).plus y) V.objs 18 S.objs :=
      (HH.out.rep.objs.off (Off.setRow w b _) (fun hl h => HH.out.apart (Or.inl (by rw [← h]; exact owns_ofR HH.out.rep.objs hl)))).grow (by repeat (first | exact Grow.refl _ | refine Grow.andr ?_ | refine Grow.plus ?_ _ | refine Grow.alloc ?_ _ | refine Grow.drew ?_ | refine Grow.drewN ?_ _))
    have HRO := Lib.hid hRO
    clear hRO
    generalize hL2 : upd V.list 10 s2 = L2 at *
    have HL2 := Lib.hid hL2
    clear hL2
    go_wp2_with fail
    go_region_law (first | (refine step_wanted (by rfl) ?_; go_simp; go_at_call 49; refine (cloned_objs _ V.objs S.objs (HRO.out.grow (by repeat (first | exact Grow.refl _ | refine Grow.andr ?_ | refine Grow.plus ?_ _ | refine Grow.alloc ?_ _ | refine Grow.drew ?_ | refine Grow.drewN ?_ _))) hSO).mono ?_; rintro e' w' ⟨s1, rfl, hO, _, nx, rfl⟩; (try simp only [drew_plus] at hO); (try simp only [plus_plus] at hO); have HO := Lib.hid (hO.mono (base' := (((w.setRow b (hoA { V with list := L2 } S.num rest)).alloc (.cells (cellsOf e) 84)).plus y).heap.size) (Grow.size (by repeat (first | exact Grow.refl _ | refine Grow.andr ?_ | refine Grow.plus ?_ _ | refine Grow.alloc ?_ _ | refine Grow.drew ?_ | refine Grow.drewN ?_ _)))); clear hO) | (refine step_wanted (by rfl) ?_; go_simp; go_at_call 128; refine (made_any e he _).mono ?_; rintro e' w' ⟨rfl, nz, rfl⟩) | ((refine step_append_cells (by rfl) _ _ 22 (by rfl) 49 Tryz.t49 (.agg (cellsOf (List.replicate 18 0))) 18 144 Tryz.underlying22 (by kernel_rfl) (by kernel_rfl) (by kernel_rfl) (by kernel_rfl) (by omega) rfl s1 (.mk _ 0 1 1) (flat S.objs) (flat [evMade e]) (by rfl) (by rfl) (HO.out.cells.grow (by repeat (first | exact Grow.refl _ | refine Grow.andr ?_ | refine Grow.plus ?_ _ | refine Grow.alloc ?_ _ | refine Grow.drew ?_ | refine Grow.drewN ?_ _))) (HO.out.room.grow (by repeat (first | exact Grow.refl _ | refine Grow.andr ?_ | refine Grow.plus ?_ _ | refine Grow.alloc ?_ _ | refine Grow.drew ?_ | refine Grow.drewN ?_ _))) (one_row _ _ 18 _ hme (by go_simp)) (flat_oneCell _) (flat_oneCell _) (by have := (HO.out.rows (by omega) HH.out.rep.objs.wid).len; simp only [Sl.n] at this ⊢; omega) ?_); intro s3 w2 d1 d2 d3 d4 d5 d6; obtain ⟨y2, rfl⟩ : Grow (((w.setRow b (hoA { V with list := L2 } S.num rest)).alloc (.cells (cellsOf e) 84)).plus y) w2 := d3.grow_of (by repeat (first | exact Grow.refl _ | refine Grow.andr ?_ | refine Grow.plus ?_ _ | refine Grow.alloc ?_ _ | refine Grow.drew ?_ | refine Grow.drewN ?_ _)) (fun k hk => (HO.out.lt k hk).1)))
    all_goals
      go_wp2_with fail
      go_ret
      rw [plus_plus] at d1
      have d1' := d1.off (b := b) (w' := ((w.setRow b (hoA { objs := s3, list := L2 } S.num rest)).alloc (.cells (cellsOf e) 84)).plus (y.and y2)) (by repeat (first | exact Off.setRow2 _ _ _ _ | exact Off.setRow _ _ _ | refine Off.plus ?_ _ | refine Off.alloc ?_ _)) (fun k hk => by
        rcases d4 k hk with h | h
        · have := (HO.out.lt k h).1; simp only [plus_size, alloc_size', size_setRow] at this; omega
        · have := h.1; simp only [plus_size, alloc_size', size_setRow] at this; omega)
      refine ⟨rfl, ⟨s3, L2⟩, Put.of_grow (by repeat (first | exact Grow.refl _ | refine Grow.andr ?_ | refine Grow.plus ?_ _ | refine Grow.alloc ?_ _ | refine Grow.drew ?_ | refine Grow.drewN ?_ _)), ⟨?_, fun z hz => ?_⟩, ?_⟩
      · rw [← flat_append] at d1'
        exact d1'.rows (by omega) (wid_append HH.out.rep.objs.wid (fun i hi => by have : i = 0 := (by simp at hi; omega); subst this; exact hme))
      · show Ints _ (L2 z) (upd S.list 10 (S.list 10 ++ [(S.objs.length : Int)]) z)
        rw [← HL2.out]
        by_cases hz10 : z = 10
        · subst hz10
          rw [upd_same, upd_same]
          refine Cells.ints ?_
          rw [List.map_append]
          refine (C1.out.off (b := b) (w' := ((w.setRow b (hoA { objs := s3, list := L2 } S.num rest)).alloc (.cells (cellsOf e) 84)).plus y) (by repeat (first | exact Off.setRow2 _ _ _ _ | exact Off.setRow _ _ _ | refine Off.plus ?_ _ | refine Off.alloc ?_ _)) (fun k hk => by have := (C2.out k hk).1; omega)).grow ?_
          rw [HL2.out]
          exact (by repeat (first | exact Grow.refl _ | refine Grow.andr ?_ | refine Grow.plus ?_ _ | refine Grow.alloc ?_ _ | refine Grow.drew ?_ | refine Grow.drewN ?_ _))
        · rw [upd_ne _ _ _ _ hz10, upd_ne _ _ _ _ hz10]
          refine ((HH.out.rep.list z hz).off (Off.setRow w b (hoA { objs := s3, list := L2 } S.num rest)) (fun hl h => HH.out.apart (Or.inr ⟨z, hz, by rw [← h]; exact owns_of (HH.out.rep.list z hz) hl⟩))).grow ?_
          rw [HL2.out]
          exact (by repeat (first | exact Grow.refl _ | refine Grow.andr ?_ | refine Grow.plus ?_ _ | refine Grow.alloc ?_ _ | refine Grow.drew ?_ | refine Grow.drewN ?_ _))
      · have hsz := d3.size
        rintro k (hk | ⟨z, hz, hk⟩)
        · right
          rcases d4 k hk with h | h
          · have h1 := HO.out.lt k h
            refine ⟨by have := h1.1; simp only [plus_size, alloc_size', size_setRow] at this; omega, Nat.lt_of_lt_of_le h1.2 (Nat.le_trans (Grow.size (by repeat (first | exact Grow.refl _ | refine Grow.andr ?_ | refine Grow.plus ?_ _ | refine Grow.alloc ?_ _ | refine Grow.drew ?_ | refine Grow.drewN ?_ _))) (Nat.le_trans hsz ?_))⟩
            simp only [plus_size, alloc_size', size_setRow, Ext.and, Array.size_append]; omega
          · simp only [plus_size, alloc_size', size_setRow, Ext.and, Array.size_append] at h ⊢; omega
        · have hk : (L2 z).owns k := hk
          rw [← HL2.out] at hk
          by_cases hz10 : z = 10
          · subst hz10
            rw [upd_same] at hk
            have := C2.out k hk
            right
            simp only [plus_size, alloc_size', size_setRow, Ext.and, Array.size_append] at this ⊢; omega
          · rw [upd_ne _ _ _ _ hz10] at hk
            exact Or.inl (Or.inr ⟨z, hz, hk⟩)
end Go.Proofs.YtibmnofpoenonaaGreatDoor
