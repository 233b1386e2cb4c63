/-
  The walk of event's move: an object moves.
-/
import Derived.Test.YtmmkmhpchoelkaaDoorEv5
import Derived.Test.YtmmkmhpchoelkaaDoorTail
namespace Go.Proofs.YtmmkmhpchoelkaaDoor
open Go Go.RowKit
attribute [local go_sem ↓] Go.wp_at_zero Go.wp_at_succ

theorem Rows'.setObj {w : World} {s : Sl} {k : Nat} {l : List (List Int)} (h : Rows' w s k l) (i f : Nat) (x : Int) (hi : i < l.length) (hf : f < k) : Rows' (w.setCell ⟨s.b, s.o + i * k + f, none⟩ (I x)) s k (l.set i ((rowAt l i).set f x)) := by
  refine ⟨by rw [List.length_set]; exact h.len, h.cap, fun j hj => ?_, fun j g hj hg => ?_⟩
  · rw [List.length_set] at hj
    rw [rowAt_set _ _ _ _ hi]
    split
    · rw [List.length_set]; exact h.wid i hi
    · exact h.wid j hj
  · rw [List.length_set] at hj
    have hc := h.cell j g hj hg
    rw [rowAt_set _ _ _ _ hi]
    by_cases e1 : i = j
    · subst e1
      rw [if_pos rfl, gt_set _ _ _ _ (by rw [h.wid i hi]; exact hf)]
      by_cases e2 : f = g
      · subst e2
        rw [if_pos rfl]
        exact World.cell?_setCell_same _ _ _ hc
      · rw [if_neg e2, World.cell?_setCell_other _ _ _ _ (by simp only [ne_eq, Addr.mk.injEq, true_and, and_true]; omega)]; exact hc
    · rw [if_neg e1, World.cell?_setCell_other _ _ _ _ (by
        simp only [ne_eq, Addr.mk.injEq, true_and, and_true]
        intro e
        rcases Nat.lt_or_gt_of_ne e1 with h1 | h1
        · have : (i + 1) * k ≤ j * k := Nat.mul_le_mul_right _ h1
          rw [Nat.add_mul] at this; omega
        · have : (j + 1) * k ≤ i * k := Nat.mul_le_mul_right _ h1
          rw [Nat.add_mul] at this; omega)]; exact hc
theorem lift_ints {w : World} {b : Nat} {cs : Array Value} {o : Obj} {q : Ext} {s : Sl} {l : List Int} (h : Ints ((w.alloc o).plus q) s l) (hs : ∀ k, s.owns k → k ≠ b) : Ints (((w.setRow b cs).alloc o).plus q) s l :=
  h.off (b := b) (by repeat (first | exact Off.setRow2 _ _ _ _ | exact Off.setRow _ _ _ | refine Off.plus ?_ _ | refine Off.alloc ?_ _)) (fun hl e => hs _ (owns_of h hl) e)
/-- What stands when an object has moved. -/
theorem moved_done {w : World} {b : Nat} {V : SV} {S : St} {rest : Array Value} (H : Host w b V S rest) (a bz c dz ei : Nat) (hA : a < S.objs.length) (o : Obj) (p q : Ext) (so s1 s2 : Sl)
    (hI2 : Ints (((w.setRow b (hoA { V with list := upd (upd V.list bz s1) dz s2 } S.num rest)).alloc o).plus p) s2 ((moveTo S bz c dz).insertIdx ei (a : Int)))
    (hI1 : dz ≠ bz → Ints (((w.setRow b (hoA { V with list := upd (upd V.list bz s1) dz s2 } S.num rest)).alloc o).plus p) s1 ((S.list bz).eraseIdx c))
    (R5 : Rows' (((w.setRow b (hoA { objs := so, list := upd (upd V.list bz s1) dz s2 } S.num rest)).alloc o).plus p) so 18 S.objs)
    (hso : ∀ k, so.owns k → w.heap.size + 1 ≤ k ∧ k < w.heap.size + 1 + p.objs.size) (h1 : ∀ k, s1.owns k → w.heap.size + 1 ≤ k ∧ k < w.heap.size + 1 + p.objs.size) (h2 : ∀ k, s2.owns k → w.heap.size + 1 ≤ k ∧ k < w.heap.size + 1 + p.objs.size)
    (hD1 : ∀ k j, s1.owns k → so.owns j → k < j) (hD2 : ∀ k j, s2.owns k → so.owns j → k < j) :
    Done w b V rest (movedS S a bz c dz ei) (setCellFar ((w.setRow b (hoA { objs := so, list := upd (upd V.list bz s1) dz s2 } S.num rest)).alloc o) (p.and q) so.b (so.o + a * 18 + 3) (I dz)) := by
  have hob := owns_ofR R5 (by omega)
  have hlt := H.lt
  have hsob := hso _ hob
  unfold setCellFar
  have hK6 : Kept (fun k => k = b ∨ k = so.b) (((w.setRow b (hoA { V with list := upd (upd V.list bz s1) dz s2 } S.num rest)).alloc o).plus p) ((((w.setRow b (hoA { objs := so, list := upd (upd V.list bz s1) dz s2 } S.num rest)).alloc o).plus (p.and q)).setCell ⟨so.b, so.o + a * 18 + 3, none⟩ (I dz)) := by
    refine Kept.setCell (own := fun k => k = b ∨ k = so.b) ?_ _ _ _ (fun _ => Or.inr rfl)
    rw [← plus_plus]
    refine Kept.plus ?_ q
    have ho : Off b (((w.setRow b (hoA { V with list := upd (upd V.list bz s1) dz s2 } S.num rest)).alloc o).plus p) (((w.setRow b (hoA { objs := so, list := upd (upd V.list bz s1) dz s2 } S.num rest)).alloc o).plus p) := (by repeat (first | exact Off.setRow2 _ _ _ _ | exact Off.setRow _ _ _ | refine Off.plus ?_ _ | refine Off.alloc ?_ _))
    exact (ho.kept rfl rfl rfl).mono (fun _ _ h => Or.inl h)
  have hold : ∀ z, z < 11 → Ints (((w.setRow b (hoA { V with list := upd (upd V.list bz s1) dz s2 } S.num rest)).alloc o).plus p) (V.list z) (S.list z) := fun z hz =>
    ((H.rep.list z hz).off (Off.setRow w b _) (fun hl h => H.apart (Or.inr ⟨z, hz, by rw [← h]; exact owns_of (H.rep.list z hz) hl⟩))).grow (by repeat (first | exact Grow.refl _ | refine Grow.andr ?_ | refine Grow.plus ?_ _ | refine Grow.alloc ?_ _ | refine Grow.drew ?_ | refine Grow.drewN ?_ _))
  refine ⟨⟨so, upd (upd V.list bz s1) dz s2⟩, ?_, ⟨?_, fun z hz => ?_⟩, ?_⟩
  · refine Put.of_grow ((Kept.setCell (own := fun k => k = so.b) (Grow.kept _ (a := w.setRow b (hoA { objs := so, list := upd (upd V.list bz s1) dz s2 } S.num rest)) (by repeat (first | exact Grow.refl _ | refine Grow.andr ?_ | refine Grow.plus ?_ _ | refine Grow.alloc ?_ _ | refine Grow.drew ?_ | refine Grow.drewN ?_ _))) so.b _ _ (fun _ => rfl)).grow (fun k hk h => ?_))
    have h : k = so.b := h
    rw [size_setRow] at hk
    omega
  · have := (R5.grow (⟨q, rfl⟩ : Grow _ ((((w.setRow b (hoA { objs := so, list := upd (upd V.list bz s1) dz s2 } S.num rest)).alloc o).plus p).plus q))).setObj a 3 (dz : Int) hA (by omega)
    rw [plus_plus] at this
    exact this
  · show Ints _ (upd (upd V.list bz s1) dz s2 z) (upd (upd S.list bz ((S.list bz).eraseIdx c)) dz ((moveTo S bz c dz).insertIdx ei (a : Int)) z)
    by_cases e1 : z = dz
    · subst e1
      rw [upd_same, upd_same]
      refine hI2.kept hK6 (fun hl h => ?_)
      have h3 := owns_of hI2 hl
      have h4 := h2 _ h3
      have h5 := hD2 _ _ h3 hob
      omega
    · rw [upd_ne _ _ _ _ e1, upd_ne _ _ _ _ e1]
      by_cases e2 : z = bz
      · subst e2
        rw [upd_same, upd_same]
        have hI := hI1 (fun h => e1 h.symm)
        refine hI.kept hK6 (fun hl h => ?_)
        have h3 := owns_of hI hl
        have h4 := h1 _ h3
        have h5 := hD1 _ _ h3 hob
        omega
      · rw [upd_ne _ _ _ _ e2, upd_ne _ _ _ _ e2]
        have hI := hold z hz
        refine hI.kept hK6 (fun hl h => ?_)
        have h3 : V.uses (V.list z).b := Or.inr ⟨z, hz, owns_of hI hl⟩
        have h4 := H.in' _ h3
        rcases h with h | h
        · exact H.apart (by rw [← h]; exact h3)
        · omega
  · have hsz : ((((w.setRow b (hoA { objs := so, list := upd (upd V.list bz s1) dz s2 } S.num rest)).alloc o).plus (p.and q)).setCell ⟨so.b, so.o + a * 18 + 3, none⟩ (I dz)).heap.size = w.heap.size + 1 + p.objs.size + q.objs.size := by
      rw [show ∀ (W : World) (x : Addr) (v : Value), (W.setCell x v).heap.size = W.heap.size from fun W x v => (by simp [World.setCell]), plus_size, alloc_size', size_setRow]; simp only [Ext.and, Array.size_append]; omega
    rw [hsz]
    rintro k (hk | ⟨z, hz, hk⟩)
    · have := hso k hk; right; omega
    · have hk : (upd (upd V.list bz s1) dz s2 z).owns k := hk
      by_cases e1 : z = dz
      · subst e1; rw [upd_same] at hk; have := h2 k hk; right; omega
      · rw [upd_ne _ _ _ _ e1] at hk
        by_cases e2 : z = bz
        · subst e2; rw [upd_same] at hk; have := h1 k hk; right; omega
        · rw [upd_ne _ _ _ _ e2] at hk
          exact Or.inl (Or.inr ⟨z, hz, hk⟩)
set_option maxRecDepth 100000 in
set_option maxHeartbeats 2000000 in
theorem move_ok (S : St) (V : SV) (b : Nat) (rest : Array Value) (e : List Int) (a bz c dz ei : Nat) (E : MoveEv e a bz c dz ei) (w : World) (H : Host w b V S rest) (hS : Small S) (hA : a < S.objs.length) (hC : c < (S.list bz).length) (hx : gt (S.list bz) c = a) (hE : ei ≤ (moveTo S bz c dz).length) :
    Calls Tryd.prog 85 #[.pointer (some ⟨b, 0, none⟩), .agg (cellsOf e)] w fun r w' => r = .returned .nilIface ∧ Done w b V rest (movedS S a bz c dz ei) w' := by
  have hN := H.rep.objs.len
  have HH := Lib.hid H
  obtain ⟨he, q1, q2, q3, q4, q5, hb', hd'⟩ := E
  have hlb := hS.list bz hb'
  have hSO := hS.objs
  have hlB := (H.rep.list bz hb').len
  have hbI : (bz : Int) < 11 := by omega
  have hbJ : (0 : Int) ≤ (bz : Int) := by omega
  have hcell := cell_of_blk (H).free (H).blk; have hfz := frozen_of_free (H).free; have hset := setCell_of_blk (H).free (H).blk; have hblk := (H).blk; have hfree := (H).free; have hlt := (H).lt; have hne1 : ¬ b = (w).heap.size := (by omega); have hne2 : ¬ (w).heap.size = b := (by omega)
  have HS := Lib.hid hS
  clear H hS
  have hlen : ¬ ((S.objs.length : Int) ≤ (a : Int)) := by omega
  have hdI : (dz : Int) < 11 := by omega
  have hdJ : (0 : Int) ≤ (dz : Int) := by omega
  have aI : (a : Int) < S.objs.length := by omega
  have aJ : (0 : Int) ≤ (a : Int) := by omega
  go_enter Tryd.func85, Tryd.ntmps85
  go_wp2_with fail
  refine wp_region_grow (by kernel_rfl) (by kernel_rfl) ?_; (repeat (go_big_quiet_step ( fail ))); refine wpQuiet_nil ?_; rintro _ ⟨nx, rfl⟩
  go_wp2_with fail
  go_upto_region 3 with fail
  go_cut [5, 6, 7] (fun v5 v6 v7 wx => ∃ (s1 : Sl) (y : Ext), v5 = s1.val ∧ v6 = .int .i64 a ∧ v7 = .nilIface ∧ wx = (w.alloc (.cells (cellsOf e) 42)).plus y ∧ Ints wx s1 ((S.list bz).eraseIdx c) ∧ ∀ k, s1.owns k → w.heap.size + 1 ≤ k ∧ k < wx.heap.size)
  case first =>
    go_region_with (go_at_call 102; refine (remove_yes _ (V.list bz) (S.list bz) c ((HH.out.rep.list bz hb').grow (by repeat (first | exact Grow.refl _ | refine Grow.andr ?_ | refine Grow.plus ?_ _ | refine Grow.alloc ?_ _ | refine Grow.drew ?_ | refine Grow.drewN ?_ _))) hC hlb).mono ?_; rintro e' w' ⟨s1, rfl, hI1, hf1, n1, rfl⟩; (try simp only [drew_plus] at hI1 hf1); (try simp only [plus_plus] at hI1 hf1); rw [hx])
    all_goals
      go_wp2_with fail
      go_meet
      refine ⟨s1, _, rfl, rfl, rfl, rfl, hI1, fun k hk => ⟨?_, (hf1 k hk).2⟩⟩
      have h1 := (hf1 k hk).1
      have h2 := Grow.size (w := w.alloc (.cells (cellsOf e) 42)) (w' := ((w.alloc (.cells (cellsOf e) 42)).plus nx).drew) (by repeat (first | exact Grow.refl _ | refine Grow.andr ?_ | refine Grow.plus ?_ _ | refine Grow.alloc ?_ _ | refine Grow.drew ?_ | refine Grow.drewN ?_ _))
      rw [alloc_size'] at h2
      omega
  case rest =>
    obtain ⟨s1, y, rfl, rfl, rfl, rfl, hI1, hf1⟩ := hcut
    have HI1 := Lib.hid hI1
    have HF1 := Lib.hid hf1
    clear hI1 hf1 hx
    go_wp2_with fail
    refine wp_region_grow (by kernel_rfl) (by kernel_rfl) ?_; (repeat (go_big_quiet_step ( fail ))); refine wpQuiet_nil ?_; rintro _ ⟨nx, rfl⟩
    by_cases hdb : dz = bz
    · subst hdb
      have hmt : moveTo S dz c dz = (S.list dz).eraseIdx c := by unfold moveTo; rw [if_pos rfl]
      rw [hmt] at hE
      have HE := Lib.hid hE
      have HLE : Hid (((S.list dz).eraseIdx c).length ≤ 1048576) := by rw [Hid, List.length_eraseIdx_of_lt hC]; omega
      have HMT := Lib.hid hmt
      clear hE hmt
      go_wp2_with (go_at_call 103; refine (insert_yes _ s1 ((S.list dz).eraseIdx c) ei (a : Int) (HI1.out.grow (by repeat (first | exact Grow.refl _ | refine Grow.andr ?_ | refine Grow.plus ?_ _ | refine Grow.alloc ?_ _ | refine Grow.drew ?_ | refine Grow.drewN ?_ _))) HE.out HLE.out).mono ?_; rintro e' w' ⟨s2, rfl, hI2, hf2, n2, rfl⟩; (try simp only [plus_plus] at hI2 hf2); have HI2 := Lib.hid hI2; have HF2 := Lib.hid hf2; clear hI2 hf2)
      refine wp_region_order [0, 1, 2, 3, 4, 5, 6] 7 [] (by kernel_rfl) (by kernel_rfl) ?_; simp only [pickO, List.getElem?_cons_zero, List.getElem?_cons_succ]; (repeat (go_big_quiet_step ( fail ))); refine wpQuiet_nil ?_; rintro _ ⟨nx, rfl⟩
      go_wp2_with fail
      refine wp_region_order [0, 1, 2, 3, 4, 5, 6] 7 [] (by kernel_rfl) (by kernel_rfl) ?_; simp only [pickO, List.getElem?_cons_zero, List.getElem?_cons_succ]; (repeat (go_big_quiet_step ( fail ))); refine wpQuiet_nil ?_; rintro _ ⟨nx, rfl⟩
      go_wp2_with fail
      go_at_call 51
      refine (cloned_objs _ V.objs S.objs ((HH.out.rep.objs.off (Off.setRow w b _) (fun hl h => HH.out.apart (Or.inl (by rw [← h]; exact owns_ofR HH.out.rep.objs hl)))).grow (by repeat (first | exact Grow.refl _ | refine Grow.andr ?_ | refine Grow.plus ?_ _ | refine Grow.alloc ?_ _ | refine Grow.drew ?_ | refine Grow.drewN ?_ _))) hSO).mono ?_
      rintro e' w' ⟨so, rfl, hO, _, hg⟩
      have hJ2 := (lift_ints (b := b) (cs := hoA { V with list := upd (upd V.list dz s1) dz s2 } S.num rest) HI2.out (fun k hk => by have := (HF2.out k hk).1; simp only [plus_size, alloc_size'] at this; omega)).grow (Grow.trans (by repeat (first | exact Grow.refl _ | refine Grow.andr ?_ | refine Grow.plus ?_ _ | refine Grow.alloc ?_ _ | refine Grow.drew ?_ | refine Grow.drewN ?_ _)) hg)
      have hJ1 := (lift_ints (b := b) (cs := hoA { V with list := upd (upd V.list dz s1) dz s2 } S.num rest) HI1.out (fun k hk => by have := (HF1.out k hk).1; omega)).grow (Grow.trans (by repeat (first | exact Grow.refl _ | refine Grow.andr ?_ | refine Grow.plus ?_ _ | refine Grow.alloc ?_ _ | refine Grow.drew ?_ | refine Grow.drewN ?_ _)) hg)
      have hb2 : ∀ k, s2.owns k → w.heap.size + 1 ≤ k ∧ k < w'.heap.size := (fun k hk => ⟨by have := (HF2.out k hk).1; simp only [plus_size, alloc_size'] at this; omega, Nat.lt_of_lt_of_le (HF2.out k hk).2 (Nat.le_trans (by simp only [plus_size, alloc_size', size_setRow, Ext.and, Array.size_append]; omega) hg.size)⟩)
      have hb1 : ∀ k, s1.owns k → w.heap.size + 1 ≤ k ∧ k < w'.heap.size := (fun k hk => ⟨(HF1.out k hk).1, Nat.lt_of_lt_of_le (HF1.out k hk).2 (Nat.le_trans (by simp only [plus_size, alloc_size', size_setRow, Ext.and, Array.size_append]; omega) hg.size)⟩)
      have hd2 : ∀ k j, s2.owns k → so.owns j → k < j := (fun k j hk hj => Nat.lt_of_lt_of_le (HF2.out k hk).2 (Nat.le_trans (by simp only [plus_size, alloc_size', size_setRow, Ext.and, Array.size_append]; omega) (hO.lt j hj).1))
      have hd1 : ∀ k j, s1.owns k → so.owns j → k < j := (fun k j hk hj => Nat.lt_of_lt_of_le (HF1.out k hk).2 (Nat.le_trans (by simp only [plus_size, alloc_size', size_setRow, Ext.and, Array.size_append]; omega) (hO.lt j hj).1))
      have hbo : ∀ k, so.owns k → w.heap.size + 1 ≤ k ∧ k < w'.heap.size := (fun k hk => ⟨Nat.le_trans (by simp only [plus_size, alloc_size', size_setRow, Ext.and, Array.size_append]; omega) (hO.lt k hk).1, (hO.lt k hk).2⟩)
      obtain ⟨p, rfl⟩ : Grow ((w.setRow b (hoA { V with list := upd (upd V.list dz s1) dz s2 } S.num rest)).alloc (.cells (cellsOf e) 42)) w' := Grow.trans (by repeat (first | exact Grow.refl _ | refine Grow.andr ?_ | refine Grow.plus ?_ _ | refine Grow.alloc ?_ _ | refine Grow.drew ?_ | refine Grow.drewN ?_ _)) hg
      have HO := Lib.hid hO
      have HJ1 := Lib.hid hJ1
      have HJ2 := Lib.hid hJ2
      have HB1 := Lib.hid hb1
      have HB2 := Lib.hid hb2
      have HBO := Lib.hid hbo
      have HD1 := Lib.hid hd1
      have HD2 := Lib.hid hd2
      clear hO hJ1 hJ2 hb1 hb2 hbo hd1 hd2 hg
      have hO3 := HO.out.apart (b := b) (w' := ((w.setRow b (hoA { objs := so, list := upd (upd V.list dz s1) dz s2 } S.num rest)).alloc (.cells (cellsOf e) 42)).plus p) (by repeat (first | exact Off.setRow2 _ _ _ _ | exact Off.setRow _ _ _ | refine Off.plus ?_ _ | refine Off.alloc ?_ _)) (fun k hk => by have := (HBO.out k hk).1; omega)
      have R5 : Rows' (((w.setRow b (hoA { objs := so, list := upd (upd V.list dz s1) dz s2 } S.num rest)).alloc (.cells (cellsOf e) 42)).plus p) so 18 S.objs := hO3.rows (by omega) HH.out.rep.objs.wid
      have hob := owns_ofR R5 (by omega)
      have hge : ¬ so.b < w.heap.size + 1 := by have := (HBO.out _ hob).1; omega
      have hge2 : ¬ so.b < ((w.setRow b (hoA { objs := so, list := upd (upd V.list dz s1) dz s2 } S.num rest)).alloc (.cells (cellsOf e) 42)).heap.size := by rw [alloc_size', size_setRow]; exact hge
      have hson : so.n = S.objs.length := R5.len
      have hfar : ∀ q, cellFar ((w.setRow b (hoA { objs := so, list := upd (upd V.list dz s1) dz s2 } S.num rest)).alloc (.cells (cellsOf e) 42)) (p.and q) so.b (so.o + a * 18 + 3) = some (I (gt (rowAt S.objs a) 3)) := fun q => by
        have := (R5.grow (⟨q, rfl⟩ : Grow _ ((((w.setRow b (hoA { objs := so, list := upd (upd V.list dz s1) dz s2 } S.num rest)).alloc (.cells (cellsOf e) 42)).plus p).plus q))).cell a 3 hA (by omega)
        rw [plus_plus, plus_cell, if_neg hge2] at this
        exact this
      have hfrz : ∀ q, frozenFar ((w.setRow b (hoA { objs := so, list := upd (upd V.list dz s1) dz s2 } S.num rest)).alloc (.cells (cellsOf e) 42)) (p.and q) so.b (so.o + a * 18 + 3) = false := fun q => by
        have := ((hO3.grow (⟨q, rfl⟩ : Grow _ ((((w.setRow b (hoA { objs := so, list := upd (upd V.list dz s1) dz s2 } S.num rest)).alloc (.cells (cellsOf e) 42)).plus p).plus q))).room.there (a * 18 + 3) (by have := R5.cap; omega)).2
        rw [plus_plus, ← Nat.add_assoc, plus_frozen, if_neg hge2] at this
        exact this
      have HR5 := Lib.hid R5
      clear hO3 R5 hge2
      go_wp2_with fail
      refine wp_region_order [0, 1, 2, 3, 4, 5, 6, 7, 8, 9] 10 [] (by kernel_rfl) (by kernel_rfl) ?_; simp only [pickO, List.getElem?_cons_zero, List.getElem?_cons_succ]; (repeat (go_big_quiet_step ( fail ))); refine wpQuiet_nil ?_; rintro _ ⟨nx, rfl⟩
      go_wp2_with fail
      go_ret
      refine ⟨rfl, moved_done HH.out a dz c dz ei hA _ p _ so s1 s2 (by rw [HMT.out]; exact HJ2.out) (fun hn => HJ1.out) HR5.out (fun k hk => ?_) (fun k hk => ?_) (fun k hk => ?_) HD1.out HD2.out⟩
      · have := HBO.out k hk; simp only [plus_size, alloc_size', size_setRow] at this; exact this
      · have := HB1.out k hk; simp only [plus_size, alloc_size', size_setRow] at this; exact this
      · have := HB2.out k hk; simp only [plus_size, alloc_size', size_setRow] at this; exact this
    · have hmt : moveTo S bz c dz = S.list dz := by unfold moveTo; rw [if_neg hdb]
      rw [hmt] at hE
      have HE := Lib.hid hE
      have HLE : Hid ((S.list dz).length ≤ 1048576) := HS.out.list dz hd'
      have HMT := Lib.hid hmt
      have hdb2 : ((dz : Int) == (bz : Int)) = false := by simp; omega
      clear hE hmt
      go_wp2_with (go_at_call 103; refine (insert_yes _ (V.list dz) (S.list dz) ei (a : Int) ((HH.out.rep.list dz hd').grow (by repeat (first | exact Grow.refl _ | refine Grow.andr ?_ | refine Grow.plus ?_ _ | refine Grow.alloc ?_ _ | refine Grow.drew ?_ | refine Grow.drewN ?_ _))) HE.out HLE.out).mono ?_; rintro e' w' ⟨s2, rfl, hI2, hf2, n2, rfl⟩; (try simp only [plus_plus] at hI2 hf2); have HI2 := Lib.hid hI2; have HF2 := Lib.hid hf2; clear hI2 hf2)
      refine wp_region_order [0, 1, 2, 3, 4, 5, 6] 7 [] (by kernel_rfl) (by kernel_rfl) ?_; simp only [pickO, List.getElem?_cons_zero, List.getElem?_cons_succ]; (repeat (go_big_quiet_step ( fail ))); refine wpQuiet_nil ?_; rintro _ ⟨nx, rfl⟩
      go_wp2_with fail
      refine wp_region_order [0, 1, 2, 3, 4, 5, 6] 7 [] (by kernel_rfl) (by kernel_rfl) ?_; simp only [pickO, List.getElem?_cons_zero, List.getElem?_cons_succ]; (repeat (go_big_quiet_step ( fail ))); refine wpQuiet_nil ?_; rintro _ ⟨nx, rfl⟩
      go_wp2_with fail
      go_at_call 51
      refine (cloned_objs _ V.objs S.objs ((HH.out.rep.objs.off (Off.setRow w b _) (fun hl h => HH.out.apart (Or.inl (by rw [← h]; exact owns_ofR HH.out.rep.objs hl)))).grow (by repeat (first | exact Grow.refl _ | refine Grow.andr ?_ | refine Grow.plus ?_ _ | refine Grow.alloc ?_ _ | refine Grow.drew ?_ | refine Grow.drewN ?_ _))) hSO).mono ?_
      rintro e' w' ⟨so, rfl, hO, _, hg⟩
      have hJ2 := (lift_ints (b := b) (cs := hoA { V with list := upd (upd V.list bz s1) dz s2 } S.num rest) HI2.out (fun k hk => by have := (HF2.out k hk).1; simp only [plus_size, alloc_size'] at this; omega)).grow (Grow.trans (by repeat (first | exact Grow.refl _ | refine Grow.andr ?_ | refine Grow.plus ?_ _ | refine Grow.alloc ?_ _ | refine Grow.drew ?_ | refine Grow.drewN ?_ _)) hg)
      have hJ1 := (lift_ints (b := b) (cs := hoA { V with list := upd (upd V.list bz s1) dz s2 } S.num rest) HI1.out (fun k hk => by have := (HF1.out k hk).1; omega)).grow (Grow.trans (by repeat (first | exact Grow.refl _ | refine Grow.andr ?_ | refine Grow.plus ?_ _ | refine Grow.alloc ?_ _ | refine Grow.drew ?_ | refine Grow.drewN ?_ _)) hg)
      have hb2 : ∀ k, s2.owns k → w.heap.size + 1 ≤ k ∧ k < w'.heap.size := (fun k hk => ⟨by have := (HF2.out k hk).1; simp only [plus_size, alloc_size'] at this; omega, Nat.lt_of_lt_of_le (HF2.out k hk).2 (Nat.le_trans (by simp only [plus_size, alloc_size', size_setRow, Ext.and, Array.size_append]; omega) hg.size)⟩)
      have hb1 : ∀ k, s1.owns k → w.heap.size + 1 ≤ k ∧ k < w'.heap.size := (fun k hk => ⟨(HF1.out k hk).1, Nat.lt_of_lt_of_le (HF1.out k hk).2 (Nat.le_trans (by simp only [plus_size, alloc_size', size_setRow, Ext.and, Array.size_append]; omega) hg.size)⟩)
      have hd2 : ∀ k j, s2.owns k → so.owns j → k < j := (fun k j hk hj => Nat.lt_of_lt_of_le (HF2.out k hk).2 (Nat.le_trans (by simp only [plus_size, alloc_size', size_setRow, Ext.and, Array.size_append]; omega) (hO.lt j hj).1))
      have hd1 : ∀ k j, s1.owns k → so.owns j → k < j := (fun k j hk hj => Nat.lt_of_lt_of_le (HF1.out k hk).2 (Nat.le_trans (by simp only [plus_size, alloc_size', size_setRow, Ext.and, Array.size_append]; omega) (hO.lt j hj).1))
      have hbo : ∀ k, so.owns k → w.heap.size + 1 ≤ k ∧ k < w'.heap.size := (fun k hk => ⟨Nat.le_trans (by simp only [plus_size, alloc_size', size_setRow, Ext.and, Array.size_append]; omega) (hO.lt k hk).1, (hO.lt k hk).2⟩)
      obtain ⟨p, rfl⟩ : Grow ((w.setRow b (hoA { V with list := upd (upd V.list bz s1) dz s2 } S.num rest)).alloc (.cells (cellsOf e) 42)) w' := Grow.trans (by repeat (first | exact Grow.refl _ | refine Grow.andr ?_ | refine Grow.plus ?_ _ | refine Grow.alloc ?_ _ | refine Grow.drew ?_ | refine Grow.drewN ?_ _)) hg
      have HO := Lib.hid hO
      have HJ1 := Lib.hid hJ1
      have HJ2 := Lib.hid hJ2
      have HB1 := Lib.hid hb1
      have HB2 := Lib.hid hb2
      have HBO := Lib.hid hbo
      have HD1 := Lib.hid hd1
      have HD2 := Lib.hid hd2
      clear hO hJ1 hJ2 hb1 hb2 hbo hd1 hd2 hg
      have hO3 := HO.out.apart (b := b) (w' := ((w.setRow b (hoA { objs := so, list := upd (upd V.list bz s1) dz s2 } S.num rest)).alloc (.cells (cellsOf e) 42)).plus p) (by repeat (first | exact Off.setRow2 _ _ _ _ | exact Off.setRow _ _ _ | refine Off.plus ?_ _ | refine Off.alloc ?_ _)) (fun k hk => by have := (HBO.out k hk).1; omega)
      have R5 : Rows' (((w.setRow b (hoA { objs := so, list := upd (upd V.list bz s1) dz s2 } S.num rest)).alloc (.cells (cellsOf e) 42)).plus p) so 18 S.objs := hO3.rows (by omega) HH.out.rep.objs.wid
      have hob := owns_ofR R5 (by omega)
      have hge : ¬ so.b < w.heap.size + 1 := by have := (HBO.out _ hob).1; omega
      have hge2 : ¬ so.b < ((w.setRow b (hoA { objs := so, list := upd (upd V.list bz s1) dz s2 } S.num rest)).alloc (.cells (cellsOf e) 42)).heap.size := by rw [alloc_size', size_setRow]; exact hge
      have hson : so.n = S.objs.length := R5.len
      have hfar : ∀ q, cellFar ((w.setRow b (hoA { objs := so, list := upd (upd V.list bz s1) dz s2 } S.num rest)).alloc (.cells (cellsOf e) 42)) (p.and q) so.b (so.o + a * 18 + 3) = some (I (gt (rowAt S.objs a) 3)) := fun q => by
        have := (R5.grow (⟨q, rfl⟩ : Grow _ ((((w.setRow b (hoA { objs := so, list := upd (upd V.list bz s1) dz s2 } S.num rest)).alloc (.cells (cellsOf e) 42)).plus p).plus q))).cell a 3 hA (by omega)
        rw [plus_plus, plus_cell, if_neg hge2] at this
        exact this
      have hfrz : ∀ q, frozenFar ((w.setRow b (hoA { objs := so, list := upd (upd V.list bz s1) dz s2 } S.num rest)).alloc (.cells (cellsOf e) 42)) (p.and q) so.b (so.o + a * 18 + 3) = false := fun q => by
        have := ((hO3.grow (⟨q, rfl⟩ : Grow _ ((((w.setRow b (hoA { objs := so, list := upd (upd V.list bz s1) dz s2 } S.num rest)).alloc (.cells (cellsOf e) 42)).plus p).plus q))).room.there (a * 18 + 3) (by have := R5.cap; omega)).2
        rw [plus_plus, ← Nat.add_assoc, plus_frozen, if_neg hge2] at this
        exact this
      have HR5 := Lib.hid R5
      clear hO3 R5 hge2
      go_wp2_with fail
      refine wp_region_order [0, 1, 2, 3, 4, 5, 6, 7, 8, 9] 10 [] (by kernel_rfl) (by kernel_rfl) ?_; simp only [pickO, List.getElem?_cons_zero, List.getElem?_cons_succ]; (repeat (go_big_quiet_step ( fail ))); refine wpQuiet_nil ?_; rintro _ ⟨nx, rfl⟩
      go_wp2_with fail
      go_ret
      refine ⟨rfl, moved_done HH.out a bz c dz ei hA _ p _ so s1 s2 (by rw [HMT.out]; exact HJ2.out) (fun hn => HJ1.out) HR5.out (fun k hk => ?_) (fun k hk => ?_) (fun k hk => ?_) HD1.out HD2.out⟩
      · have := HBO.out k hk; simp only [plus_size, alloc_size', size_setRow] at this; exact this
      · have := HB1.out k hk; simp only [plus_size, alloc_size', size_setRow] at this; exact this
      · have := HB2.out k hk; simp only [plus_size, alloc_size', size_setRow] at this; exact this
end Go.Proofs.YtmmkmhpchoelkaaDoor
