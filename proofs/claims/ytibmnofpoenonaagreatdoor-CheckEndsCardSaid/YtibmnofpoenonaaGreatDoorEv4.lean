/-
  The walk of event's remove.
-/
import Derived.Test.YtibmnofpoenonaaGreatDoorEv3
namespace Go.Proofs.YtibmnofpoenonaaGreatDoor
open Go Go.RowKit

@[go_sem] theorem equalIn_Object (w : World) (a b : List Int) (ha : a.length = 18) (hb : b.length = 18) : (Op.equalIn 10000 49 (.agg (cellsOf a)) (.agg (cellsOf b))).run Tryz.prog w = .ok (decide (a = b)) w :=
  run_equalIn_ints w 49 3 18 Tryz.underlying49 Tryz.underlying3 (by kernel_rfl) 9998 a b ha hb
@[go_sem] theorem run_storeX_ints (w : World) (b o sb so n c : Nat) (h : (w.cell? ⟨b, o, none⟩).isSome = true) (hf : w.frozen? ⟨b, o, none⟩ = false) : (stRow 23 (.pointer (some ⟨b, o, none⟩)) (.slice (some ⟨sb, so, none⟩) n c)).run Tryz.prog w = .ok .skip (w.setCell ⟨b, o, none⟩ (.slice (some ⟨sb, so, none⟩) n c)) :=
  run_stSl w b o 23 (.mk sb so n c) (by kernel_rfl) h hf
@[go_sem] theorem run_storeX_objs (w : World) (b o sb so n c : Nat) (h : (w.cell? ⟨b, o, none⟩).isSome = true) (hf : w.frozen? ⟨b, o, none⟩ = false) : (stRow 22 (.pointer (some ⟨b, o, none⟩)) (.slice (some ⟨sb, so, none⟩) n c)).run Tryz.prog w = .ok .skip (w.setCell ⟨b, o, none⟩ (.slice (some ⟨sb, so, none⟩) n c)) :=
  run_stSl w b o 22 (.mk sb so n c) (by kernel_rfl) h hf
theorem Ints.cut {w : World} {b o n c : Nat} {l : List Int} (h : Ints w (.mk b o n c) l) (m c' : Nat) (hm : m ≤ l.length) (hc : m ≤ c') : Ints w (.mk b o m c') (l.take m) := by
  refine ⟨by simp [Sl.n]; omega, hc, fun i hi => ?_⟩
  have hi' : i < m := by simp at hi; omega
  have := h.cell i (by omega)
  simp only [Sl.b, Sl.o] at this ⊢
  rw [this]
  simp [gt, hi', show i < l.length by omega]
theorem Rows'.cut {w : World} {b o n c k : Nat} {l : List (List Int)} (h : Rows' w (.mk b o n c) k l) (m c' : Nat) (hm : m ≤ l.length) (hc : m ≤ c') : Rows' w (.mk b o m c') k (l.take m) := by
  have hr : ∀ i, i < (l.take m).length → rowAt (l.take m) i = rowAt l i := fun i hi => by
    have hi' : i < m := by simp at hi; omega
    simp [rowAt, hi', show i < l.length by omega]
  refine ⟨by simp [Sl.n]; omega, hc, fun i hi => by rw [hr i hi]; exact h.wid i (by simp at hi; omega), fun i j hi hj => ?_⟩
  rw [hr i hi]
  exact h.cell i j (by simp at hi; omega) hj
theorem top_nil (S : St) (V : SV) (w : World) (R : RepSt w V S) (z : Nat) (hz : z < 11) (hS : (S.list z).length ≤ 1048576) (h : (S.list z).length = 0) :
    Calls Tryz.prog 129 #[.agg (stA V S.num), .int .i64 z] w fun e w' => e = .returned (.tuple #[.int .i64 0, .bool false]) ∧ Grow w w' := by
  have h0 : S.list z = [] := List.eq_nil_of_length_eq_zero h
  have := top_any S V w R z hz hS
  simpa [h0] using this
theorem top_cons (S : St) (V : SV) (w : World) (R : RepSt w V S) (z : Nat) (hz : z < 11) (hS : (S.list z).length ≤ 1048576) (k : Nat) (h : (S.list z).length = k + 1) :
    Calls Tryz.prog 129 #[.agg (stA V S.num), .int .i64 z] w fun e w' => e = .returned (.tuple #[.int .i64 (gt (S.list z) k), .bool true]) ∧ Grow w w' := by
  have h0 : S.list z ≠ [] := by intro e; rw [e] at h; simp at h
  have := top_any S V w R z hz hS
  rw [if_neg h0, decide_eq_true h0, h] at this
  exact this
set_option maxRecDepth 100000 in
set_option maxHeartbeats 1000000 in
theorem remove_none (S : St) (V : SV) (b : Nat) (rest : Array Value) (e : List Int) (_he : e.length = 6) (w : World) (H : Host w b V S rest) (hS : Small S) (hm : S.objs.length = 0) :
    Calls Tryz.prog 106 #[.pointer (some ⟨b, 0, none⟩), .agg (cellsOf e)] w fun r w' => r = .returned (errV 20) ∧ Grow w w' := by
  have hN := H.rep.objs.len
  have HH := Lib.hid H
  have hl10 := hS.list 10 (by omega)
  have hSO := hS.objs
  have hme : (evMade e).length = 18 := rfl
  have hl0 := (H.rep.list 10 (by omega)).len
  have hcell := cell_of_blk (H).free (H).blk; have hfz := frozen_of_free (H).free; have hset := setCell_of_blk (H).free (H).blk; have hblk := (H).blk; have hfree := (H).free; have hlt := (H).lt; have hne1 : ¬ b = (w).heap.size := (by omega); have hne2 : ¬ (w).heap.size = b := (by omega)
  clear H hS
  have ht := fun (W : World) (R : RepSt W V S) => top_any S V W R 10 (by omega) hl10
  generalize (if S.list 10 = [] then 0 else gt (S.list 10) ((S.list 10).length - 1)) = x at ht
  generalize decide (S.list 10 ≠ []) = y at ht
  have HT := Lib.hid ht
  clear ht
  rw [hm] at hN
  clear hm
  go_enter Tryz.func106, Tryz.ntmps106
  go_wp2_with (go_at_call 129; refine (HT.out _ (HH.out.rep.grow (by repeat (first | exact Grow.refl _ | refine Grow.andr ?_ | refine Grow.plus ?_ _ | refine Grow.alloc ?_ _ | refine Grow.drew ?_ | refine Grow.drewN ?_ _)))).mono ?_; rintro e' w' ⟨rfl, nx, rfl⟩)
  refine wp_region_grow (by kernel_rfl) (by kernel_rfl) ?_; (repeat (go_big_quiet_step ( fail ))); refine wpQuiet_nil ?_; rintro _ ⟨nx, rfl⟩
  go_wp2_with fail
  go_ret
  exact ⟨rfl, (by repeat (first | exact Grow.refl _ | refine Grow.andr ?_ | refine Grow.plus ?_ _ | refine Grow.alloc ?_ _ | refine Grow.drew ?_ | refine Grow.drewN ?_ _))⟩
set_option maxRecDepth 100000 in
set_option maxHeartbeats 1000000 in
theorem remove_empty (S : St) (V : SV) (b : Nat) (rest : Array Value) (e : List Int) (_he : e.length = 6) (w : World) (H : Host w b V S rest) (hS : Small S) (m : Nat) (hm : S.objs.length = m + 1) (h0 : (S.list 10).length = 0) :
    Calls Tryz.prog 106 #[.pointer (some ⟨b, 0, none⟩), .agg (cellsOf e)] w fun r w' => r = .returned (errV 20) ∧ Grow w w' := by
  have hN := H.rep.objs.len
  have HH := Lib.hid H
  have hl10 := hS.list 10 (by omega)
  have hSO := hS.objs
  have hme : (evMade e).length = 18 := rfl
  have hl0 := (H.rep.list 10 (by omega)).len
  have hcell := cell_of_blk (H).free (H).blk; have hfz := frozen_of_free (H).free; have hset := setCell_of_blk (H).free (H).blk; have hblk := (H).blk; have hfree := (H).free; have hlt := (H).lt; have hne1 : ¬ b = (w).heap.size := (by omega); have hne2 : ¬ (w).heap.size = b := (by omega)
  clear H hS
  have hmb : m ≤ 1048576 := by omega
  have HT := Lib.hid (fun (W : World) (R : RepSt W V S) => top_nil S V W R 10 (by omega) hl10 h0)
  rw [hm] at hN
  clear hm h0 hl0
  have t1 : decide ((m : Int) < 0) = false := by simp
  go_enter Tryz.func106, Tryz.ntmps106
  go_wp2_with (go_at_call 129; refine (HT.out _ (HH.out.rep.grow (by repeat (first | exact Grow.refl _ | refine Grow.andr ?_ | refine Grow.plus ?_ _ | refine Grow.alloc ?_ _ | refine Grow.drew ?_ | refine Grow.drewN ?_ _)))).mono ?_; rintro e' w' ⟨rfl, nx, rfl⟩)
  refine wp_region_grow (by kernel_rfl) (by kernel_rfl) ?_; (repeat (go_big_quiet_step ( fail ))); refine wpQuiet_nil ?_; rintro _ ⟨nx, rfl⟩
  go_wp2_with fail
  go_ret
  exact ⟨rfl, (by repeat (first | exact Grow.refl _ | refine Grow.andr ?_ | refine Grow.plus ?_ _ | refine Grow.alloc ?_ _ | refine Grow.drew ?_ | refine Grow.drewN ?_ _))⟩
set_option maxRecDepth 100000 in
set_option maxHeartbeats 1000000 in
theorem remove_other (S : St) (V : SV) (b : Nat) (rest : Array Value) (e : List Int) (_he : e.length = 6) (w : World) (H : Host w b V S rest) (hS : Small S) (m k : Nat) (hm : S.objs.length = m + 1) (h0 : (S.list 10).length = k + 1) (hx : gt (S.list 10) k ≠ m) :
    Calls Tryz.prog 106 #[.pointer (some ⟨b, 0, none⟩), .agg (cellsOf e)] w fun r w' => r = .returned (errV 20) ∧ Grow w w' := by
  have hN := H.rep.objs.len
  have HH := Lib.hid H
  have hl10 := hS.list 10 (by omega)
  have hSO := hS.objs
  have hme : (evMade e).length = 18 := rfl
  have hl0 := (H.rep.list 10 (by omega)).len
  have hcell := cell_of_blk (H).free (H).blk; have hfz := frozen_of_free (H).free; have hset := setCell_of_blk (H).free (H).blk; have hblk := (H).blk; have hfree := (H).free; have hlt := (H).lt; have hne1 : ¬ b = (w).heap.size := (by omega); have hne2 : ¬ (w).heap.size = b := (by omega)
  clear H hS
  have hmb : m ≤ 1048576 := by omega
  have HT := Lib.hid (fun (W : World) (R : RepSt W V S) => top_cons S V W R 10 (by omega) hl10 k h0)
  rw [hm] at hN
  clear hm h0 hl0
  have t1 : decide ((m : Int) < 0) = false := by simp
  generalize gt (S.list 10) k = x at *
  have t2 : (x != (m : Int)) = true := by simpa using hx
  clear hx
  go_enter Tryz.func106, Tryz.ntmps106
  go_wp2_with (go_at_call 129; refine (HT.out _ (HH.out.rep.grow (by repeat (first | exact Grow.refl _ | refine Grow.andr ?_ | refine Grow.plus ?_ _ | refine Grow.alloc ?_ _ | refine Grow.drew ?_ | refine Grow.drewN ?_ _)))).mono ?_; rintro e' w' ⟨rfl, nx, rfl⟩)
  refine wp_region_grow (by kernel_rfl) (by kernel_rfl) ?_; (repeat (go_big_quiet_step ( fail ))); refine wpQuiet_nil ?_; rintro _ ⟨nx, rfl⟩
  go_wp2_with fail
  go_ret
  exact ⟨rfl, (by repeat (first | exact Grow.refl _ | refine Grow.andr ?_ | refine Grow.plus ?_ _ | refine Grow.alloc ?_ _ | refine Grow.drew ?_ | refine Grow.drewN ?_ _))⟩
set_option maxRecDepth 100000 in
set_option maxHeartbeats 1000000 in
theorem remove_unlike (S : St) (V : SV) (b : Nat) (rest : Array Value) (e : List Int) (he : e.length = 6) (w : World) (H : Host w b V S rest) (hS : Small S) (m k : Nat) (hm : S.objs.length = m + 1) (h0 : (S.list 10).length = k + 1) (hx : gt (S.list 10) k = m) (hr : rowAt S.objs m ≠ evMade e) :
    Calls Tryz.prog 106 #[.pointer (some ⟨b, 0, none⟩), .agg (cellsOf e)] w fun r w' => r = .returned (errV 20) ∧ Grow w w' := by
  have hN := H.rep.objs.len
  have HH := Lib.hid H
  have hl10 := hS.list 10 (by omega)
  have hSO := hS.objs
  have hme : (evMade e).length = 18 := rfl
  have hl0 := (H.rep.list 10 (by omega)).len
  have hcell := cell_of_blk (H).free (H).blk; have hfz := frozen_of_free (H).free; have hset := setCell_of_blk (H).free (H).blk; have hblk := (H).blk; have hfree := (H).free; have hlt := (H).lt; have hne1 : ¬ b = (w).heap.size := (by omega); have hne2 : ¬ (w).heap.size = b := (by omega)
  clear H hS
  have hmb : m ≤ 1048576 := by omega
  have HT := Lib.hid (fun (W : World) (R : RepSt W V S) => top_cons S V W R 10 (by omega) hl10 k h0)
  have hat := HH.out.rep.objs.at (by omega) m (by omega)
  rw [hm] at hN
  rw [hx] at HT
  clear hm h0 hl0 hx
  have t1 : decide ((m : Int) < 0) = false := by simp
  obtain ⟨hb2, hw, hsz, hsub, _⟩ := hat
  have t3 : decide (rowAt S.objs m = evMade e) = false := by simpa using hr
  clear hr
  generalize rowAt S.objs m = r at *
  have b1 : (0 : Int) ≤ (m : Int) := by omega
  have b2 : (m : Int) < (m : Int) + 1 := by omega
  go_enter Tryz.func106, Tryz.ntmps106
  go_wp2_with (go_at_call 129; refine (HT.out _ (HH.out.rep.grow (by repeat (first | exact Grow.refl _ | refine Grow.andr ?_ | refine Grow.plus ?_ _ | refine Grow.alloc ?_ _ | refine Grow.drew ?_ | refine Grow.drewN ?_ _)))).mono ?_; rintro e' w' ⟨rfl, nx, rfl⟩)
  refine wp_region_grow (by kernel_rfl) (by kernel_rfl) ?_; (repeat (go_big_quiet_step ( (go_at_call 128; first | refine Calls.grow2 (made_any e he _) | refine Calls.grow (made_any e he _)) ))); refine wpQuiet_nil ?_; rintro _ ⟨nx, rfl⟩
  go_wp2_with fail
  go_ret
  exact ⟨rfl, (by repeat (first | exact Grow.refl _ | refine Grow.andr ?_ | refine Grow.plus ?_ _ | refine Grow.alloc ?_ _ | refine Grow.drew ?_ | refine Grow.drewN ?_ _))⟩
set_option maxRecDepth 100000 in
set_option maxHeartbeats 1000000 in
theorem remove_same (S : St) (V : SV) (b : Nat) (rest : Array Value) (e : List Int) (he : e.length = 6) (w : World) (H : Host w b V S rest) (hS : Small S) (m k : Nat) (hm : S.objs.length = m + 1) (h0 : (S.list 10).length = k + 1) (hx : gt (S.list 10) k = m) (hr : rowAt S.objs m = evMade e) :
    Calls Tryz.prog 106 #[.pointer (some ⟨b, 0, none⟩), .agg (cellsOf e)] w fun r w' => r = .returned .nilIface ∧ Done w b V rest { S with objs := S.objs.take m, list := upd S.list 10 ((S.list 10).take k) } w' := by
  have hN := H.rep.objs.len
  have HH := Lib.hid H
  have hl10 := hS.list 10 (by omega)
  have hSO := hS.objs
  have hme : (evMade e).length = 18 := rfl
  have hl0 := (H.rep.list 10 (by omega)).len
  have hcell := cell_of_blk (H).free (H).blk; have hfz := frozen_of_free (H).free; have hset := setCell_of_blk (H).free (H).blk; have hblk := (H).blk; have hfree := (H).free; have hlt := (H).lt; have hne1 : ¬ b = (w).heap.size := (by omega); have hne2 : ¬ (w).heap.size = b := (by omega)
  clear H hS
  have hmb : m ≤ 1048576 := by omega
  have HT := Lib.hid (fun (W : World) (R : RepSt W V S) => top_cons S V W R 10 (by omega) hl10 k h0)
  have hat := HH.out.rep.objs.at (by omega) m (by omega)
  rw [hm] at hN
  rw [hx] at HT
  rw [h0] at hl0
  have kb : k ≤ 1048576 := by omega
  have HM := Lib.hid hm
  have H0 := Lib.hid h0
  clear hm h0 hx
  have t1 : decide ((m : Int) < 0) = false := by simp
  obtain ⟨hb2, hw, hsz, hsub, _⟩ := hat
  have t3 : decide (rowAt S.objs m = evMade e) = true := by simpa using hr
  clear hr
  generalize rowAt S.objs m = r at *
  have b1 : (0 : Int) ≤ (m : Int) := by omega
  have b2 : (m : Int) < (m : Int) + 1 := by omega
  obtain ⟨ob, oo, oc, hVo⟩ : ∃ ob oo oc, V.objs = .mk ob oo (m + 1) oc := ⟨_, _, _, by rw [← hN]; exact Sl.mk_of _ (by omega)⟩
  obtain ⟨lb, lo, lc, hVl⟩ : ∃ lb lo lc, V.list 10 = .mk lb lo (k + 1) lc := ⟨_, _, _, by rw [← hl0]; exact Sl.mk_of _ (by omega)⟩
  have hvo : V.objs.val = .slice (some ⟨ob, oo, none⟩) ((m + 1 : Nat) : Nat) oc := by rw [hVo]; rfl
  have hvl : (V.list 10).val = .slice (some ⟨lb, lo, none⟩) (k + 1) lc := by rw [hVl]; rfl
  have e1 : (hoA V S.num rest).setIfInBounds 0 (.slice (some ⟨ob, oo, none⟩) m m) = hoA { V with objs := .mk ob oo m m } S.num rest := hoA_setObjs V S.num rest (.mk ob oo m m)
  have e2 : (hoA { V with objs := .mk ob oo m m } S.num rest).setIfInBounds 11 (.slice (some ⟨lb, lo, none⟩) k k) = hoA { objs := .mk ob oo m m, list := upd V.list 10 (.mk lb lo k k) } S.num rest := hoA_put11 _ S.num rest (.mk lb lo k k)
  rw [hVo] at hb2 hsz hsub
  simp only [Sl.b, Sl.o] at hb2 hsz hsub
  have cm : m ≤ oc := by have := HH.out.rep.objs.cap; rw [hVo] at this; simp only [Sl.n, Sl.c] at this; omega
  have ck : k ≤ lc := by have := (HH.out.rep.list 10 (by omega)).cap; rw [hVl] at this; simp only [Sl.n, Sl.c] at this; omega
  have HVo := Lib.hid hVo
  have HVl := Lib.hid hVl
  clear hVo hVl
  go_enter Tryz.func106, Tryz.ntmps106
  go_wp2_with (go_at_call 129; refine (HT.out _ (HH.out.rep.grow (by repeat (first | exact Grow.refl _ | refine Grow.andr ?_ | refine Grow.plus ?_ _ | refine Grow.alloc ?_ _ | refine Grow.drew ?_ | refine Grow.drewN ?_ _)))).mono ?_; rintro e' w' ⟨rfl, nx, rfl⟩)
  refine wp_region_grow (by kernel_rfl) (by kernel_rfl) ?_; (repeat (go_big_quiet_step ( (go_at_call 128; first | refine Calls.grow2 (made_any e he _) | refine Calls.grow (made_any e he _)) ))); refine wpQuiet_nil ?_; rintro _ ⟨nx, rfl⟩
  go_wp2_with fail
  go_region
  all_goals
    go_wp2_with fail
    go_ret
    refine ⟨rfl, ⟨.mk ob oo m m, upd V.list 10 (.mk lb lo k k)⟩, Put.of_grow (by repeat (first | exact Grow.refl _ | refine Grow.andr ?_ | refine Grow.plus ?_ _ | refine Grow.alloc ?_ _ | refine Grow.drew ?_ | refine Grow.drewN ?_ _)), ?_, ?_⟩
    · refine ⟨?_, fun z hz => ?_⟩
      · have h1 := HH.out.rep.objs
        rw [HVo.out] at h1
        refine (((h1.cut m m (by rw [HM.out]; omega) (Nat.le_refl _)).off (Off.setRow w b (hoA { objs := .mk ob oo m m, list := upd V.list 10 (.mk lb lo k k) } S.num rest)) (fun _ h => HH.out.apart (Or.inl (by rw [HVo.out]; exact h.symm)))).grow (by repeat (first | exact Grow.refl _ | refine Grow.andr ?_ | refine Grow.plus ?_ _ | refine Grow.alloc ?_ _ | refine Grow.drew ?_ | refine Grow.drewN ?_ _)))
      · show Ints _ (upd V.list 10 (.mk lb lo k k) z) (upd S.list 10 ((S.list 10).take k) z)
        by_cases hz10 : z = 10
        · subst hz10
          rw [upd_same, upd_same]
          have h1 := HH.out.rep.list 10 (by omega)
          rw [HVl.out] at h1
          exact (((h1.cut k k (by rw [H0.out]; omega) (Nat.le_refl _)).off (Off.setRow w b (hoA { objs := .mk ob oo m m, list := upd V.list 10 (.mk lb lo k k) } S.num rest)) (fun _ h => HH.out.apart (Or.inr ⟨10, by omega, by rw [HVl.out]; exact h.symm⟩))).grow (by repeat (first | exact Grow.refl _ | refine Grow.andr ?_ | refine Grow.plus ?_ _ | refine Grow.alloc ?_ _ | refine Grow.drew ?_ | refine Grow.drewN ?_ _)))
        · rw [upd_ne _ _ _ _ hz10, upd_ne _ _ _ _ hz10]
          exact (((HH.out.rep.list z hz).off (Off.setRow w b (hoA { objs := .mk ob oo m m, list := upd V.list 10 (.mk lb lo k k) } S.num rest)) (fun hl h => HH.out.apart (Or.inr ⟨z, hz, by rw [← h]; exact owns_of (HH.out.rep.list z hz) hl⟩))).grow (by repeat (first | exact Grow.refl _ | refine Grow.andr ?_ | refine Grow.plus ?_ _ | refine Grow.alloc ?_ _ | refine Grow.drew ?_ | refine Grow.drewN ?_ _)))
    · rintro j (hj | ⟨z, hz, hj⟩)
      · exact Or.inl (Or.inl (by rw [HVo.out]; exact hj))
      · have hj : (upd V.list 10 (.mk lb lo k k) z).owns j := hj
        by_cases hz10 : z = 10
        · subst hz10
          rw [upd_same] at hj
          exact Or.inl (Or.inr ⟨10, hz, by rw [HVl.out]; exact hj⟩)
        · rw [upd_ne _ _ _ _ hz10] at hj
          exact Or.inl (Or.inr ⟨z, hz, hj⟩)
end Go.Proofs.YtibmnofpoenonaaGreatDoor
