/-
  The walk of judge's Events.
-/
import Derived.Test.YtmmkmhpchoelkaaDoorKnow
import Derived.Test.YtmmkmhpchoelkaaDoorList
namespace Go.Proofs.YtmmkmhpchoelkaaDoor
open Go Go.RowKit

theorem room_one (w : World) (b k : Nat) (r : List Int) (hr : r.length = k) (hb : w.blk b = cellsOf r) (hf : w.free b = true) : Room w (.mk b 0 1 1) k := by
  refine ⟨by simp [Sl.c, maxLen], fun j hj => ?_⟩
  simp only [Sl.b, Sl.o, Sl.c, Nat.zero_add, Nat.one_mul] at hj ⊢
  rw [blk_cell hb (by omega), frozen_of_free hf]
  exact ⟨rfl, rfl⟩
theorem flat_six (l : List (List Int)) : flat l = (l.flatten).map I := rfl
theorem showEv_len (S : St) (id p : Int) : (flat (showEv S id p)).length ≤ 6 := by
  unfold showEv
  split
  · simp [flat]
  split
  · simp [flat]
  · simp [flat]
theorem wid_of {l : List (List Int)} {k : Nat} (h : ∀ r ∈ l, r.length = k) : ∀ i, i < l.length → (rowAt l i).length = k := fun i hi => h _ (rowAt_in l i hi)
theorem showEv_wid (S : St) (id p : Int) : ∀ r ∈ showEv S id p, r.length = 6 := by
  unfold showEv
  intro r hr
  split at hr
  · cases hr
  split at hr
  · cases hr
  · rw [List.mem_singleton] at hr; subst hr; rfl
/-- The events of a backup's commit, and the card that goes to the library. -/
def judgeEv (S : St) (card draw : Int) : Except Int (List (List Int) × Int) :=
  if card < 0 ∨ (S.objs.length : Int) ≤ card then .error 4
  else
    let z := gt (rowAt S.objs card.toNat) 3
    if z ≠ 0 ∧ z ≠ 1 then .error 12
    else if idxL (S.list z.toNat) card < 0 then .error 12
    else
      let hand := S.list (2 + z.toNat)
      let k := belowI draw (hand.length + 1)
      let back := gt (hand ++ [card]) k.toNat
      .ok ([1, card, z, idxL (S.list z.toNat) card, 2 + z, hand.length] :: showEv S card (if z = 0 then 1 else 2) ++ [[1, back, 2 + z, k, z, (S.list z.toNat).length - 1]], back)
/-- What Events hands back. -/
def JudgePost (w : World) : Except Int (List (List Int) × Int) → Ending → World → Prop
  | .error n, e, w' => e = .returned (.tuple #[.slice none 0 0, .int .i64 0, errV n]) ∧ Grow w w'
  | .ok (l, x), e, w' => ∃ s : Sl, e = .returned (.tuple #[s.val, .int .i64 x, .nilIface]) ∧ Rows' w' s 6 l ∧ Room w' s 6 ∧ (∀ b, s.owns b → w.heap.size ≤ b ∧ b < w'.heap.size) ∧ Grow w w'
theorem judge_none (S : St) (V : SV) (w : World) (R : RepSt w V S) (card draw : Int) (h : card < 0 ∨ (S.objs.length : Int) ≤ card) :
    Calls Tryd.prog 17 #[.agg (stA V S.num), .int .i64 card, .int .i64 draw] w (JudgePost w (.error 4)) := by
  have hN := R.objs.len
  by_cases h0 : card < 0
  · go_enter Tryd.func17, Tryd.ntmps17
    go_wp2_with fail
    go_ret3
    exact ⟨rfl, (by repeat (first | exact Grow.refl _ | refine Grow.andr ?_ | refine Grow.plus ?_ _ | refine Grow.alloc ?_ _ | refine Grow.drew ?_ | refine Grow.drewN ?_ _))⟩
  · have h1 : (S.objs.length : Int) ≤ card := by omega
    clear h
    go_enter Tryd.func17, Tryd.ntmps17
    go_wp2_with fail
    go_ret3
    exact ⟨rfl, (by repeat (first | exact Grow.refl _ | refine Grow.andr ?_ | refine Grow.plus ?_ _ | refine Grow.alloc ?_ _ | refine Grow.drew ?_ | refine Grow.drewN ?_ _))⟩
theorem judge_else (S : St) (V : SV) (w : World) (R : RepSt w V S) (d : Nat) (draw : Int) (h : d < S.objs.length) (h0 : gt (rowAt S.objs d) 3 ≠ 0) (h1 : gt (rowAt S.objs d) 3 ≠ 1) :
    Calls Tryd.prog 17 #[.agg (stA V S.num), .int .i64 d, .int .i64 draw] w (JudgePost w (.error 12)) := by
  have hN := R.objs.len
  obtain ⟨hb, hw, hsz, hsub, hcell⟩ := R.objs.at (by omega) d h
  have hc := hcell 3 (by omega)
  clear hcell
  generalize gt (rowAt S.objs d) 3 = z at *
  have t0 : (z != 0) = true := by simpa using h0
  have t1 : (z != 1) = true := by simpa using h1
  clear h0 h1
  go_enter Tryd.func17, Tryd.ntmps17
  go_wp2_with fail
  go_ret3
  exact ⟨rfl, (by repeat (first | exact Grow.refl _ | refine Grow.andr ?_ | refine Grow.plus ?_ _ | refine Grow.alloc ?_ _ | refine Grow.drew ?_ | refine Grow.drewN ?_ _))⟩
theorem judge_lost0 (S : St) (V : SV) (w : World) (R : RepSt w V S) (hS : Small S) (d : Nat) (draw : Int) (h : d < S.objs.length) (h0 : gt (rowAt S.objs d) 3 = 0) (hx : idxL (S.list 0) d < 0) :
    Calls Tryd.prog 17 #[.agg (stA V S.num), .int .i64 d, .int .i64 draw] w (JudgePost w (.error 12)) := by
  have hN := R.objs.len
  obtain ⟨hb, hw, hsz, hsub, hcell⟩ := R.objs.at (by omega) d h
  have hc := hcell 3 (by omega)
  rw [h0] at hc
  clear hcell h0
  have HR := Lib.hid R
  have HI := Lib.hid (fun W g => index_any W (V.list 0) (S.list 0) d ((R.list 0 (by omega)).grow g) (hS.list 0 (by omega)))
  generalize idxL (S.list 0) d = x at *
  clear R
  go_enter Tryd.func17, Tryd.ntmps17
  go_wp2_with (go_at_call 41; refine (HI.out _ (by repeat (first | exact Grow.refl _ | refine Grow.andr ?_ | refine Grow.plus ?_ _ | refine Grow.alloc ?_ _ | refine Grow.drew ?_ | refine Grow.drewN ?_ _))).mono ?_; rintro e' w' ⟨rfl, hww⟩; subst w')
  go_ret3
  exact ⟨rfl, (by repeat (first | exact Grow.refl _ | refine Grow.andr ?_ | refine Grow.plus ?_ _ | refine Grow.alloc ?_ _ | refine Grow.drew ?_ | refine Grow.drewN ?_ _))⟩
set_option maxRecDepth 100000 in
set_option maxHeartbeats 2000000 in
theorem judge_ok0 (S : St) (V : SV) (w : World) (R : RepSt w V S) (hS : Small S) (d : Nat) (draw : Int) (h : d < S.objs.length) (h0 : gt (rowAt S.objs d) 3 = 0) (hx : ¬ idxL (S.list 0) d < 0) (hlib : 0 < (S.list 0).length) :
    Calls Tryd.prog 17 #[.agg (stA V S.num), .int .i64 d, .int .i64 draw] w (JudgePost w (.ok ([1, (d : Int), 0, idxL (S.list 0) d, 2, ((S.list 2).length : Int)] :: showEv S d 1 ++ [[1, gt (S.list 2 ++ [(d : Int)]) (belowI draw ((S.list 2).length + 1)).toNat, 2, belowI draw ((S.list 2).length + 1), 0, ((S.list 0).length : Int) - 1]], gt (S.list 2 ++ [(d : Int)]) (belowI draw ((S.list 2).length + 1)).toNat))) := by
  have hN := R.objs.len
  have hlH := hS.list 2 (by omega)
  have hlZ := hS.list 0 (by omega)
  have hnH := (R.list 2 (by omega)).len
  have hnZ := (R.list 0 (by omega)).len
  obtain ⟨hb, hw, hsz, hsub, hcell⟩ := R.objs.at (by omega) d h
  have hc := hcell 3 (by omega)
  rw [h0] at hc
  clear hcell h0
  have HR := Lib.hid R
  have HI := Lib.hid (fun W g => index_any W (V.list 0) (S.list 0) d ((R.list 0 (by omega)).grow g) hlZ)
  have hbl := belowI_in draw ((S.list 2).length + 1) (by omega)
  have hpk : pickR [draw] 0 ((S.list 2).length + 1) = (belowI draw ((S.list 2).length + 1), 1, 0) := by
    unfold pickR
    rw [if_neg (by simp), if_neg (by omega), if_neg (by simp)]; rfl
  have HP := Lib.hid (fun W s r => by have := pick_any W s [draw] 0 ((S.list 2).length + 1) r (by simp) (by omega) (by omega); rw [hpk] at this; exact this)
  generalize hxx : idxL (S.list 0) d = x at *
  have hx0 : ¬ x < 0 := hx
  clear hx hpk
  generalize hkk : belowI draw ((S.list 2).length + 1) = k at *
  obtain ⟨kn, rfl⟩ := Int.eq_ofNat_of_zero_le hbl.1
  have hkn : kn ≤ (S.list 2).length := by omega
  rw [Int.toNat_natCast]
  clear R hkk hxx hbl
  go_enter Tryd.func17, Tryd.ntmps17
  go_wp2_with (first | (go_at_call 41; refine (HI.out _ (by repeat (first | exact Grow.refl _ | refine Grow.andr ?_ | refine Grow.plus ?_ _ | refine Grow.alloc ?_ _ | refine Grow.drew ?_ | refine Grow.drewN ?_ _))).mono ?_; rintro e' w' ⟨rfl, hww⟩; subst w') | (go_at_call 42; refine (show_any S V _ (HR.out.grow (by repeat (first | exact Grow.refl _ | refine Grow.andr ?_ | refine Grow.plus ?_ _ | refine Grow.alloc ?_ _ | refine Grow.drew ?_ | refine Grow.drewN ?_ _))) d _).mono ?_; rintro e' w' ⟨s1, rfl, hO, nx, rfl⟩; have HO := Lib.hid hO; clear hO; dsimp only; apply_assumption; at_builtin; go_must (refine wpList_append_cells rfl _ _ 43 rfl 42 Tryd.t42 (.agg (cellsOf (List.replicate 6 0))) 6 48 Tryd.underlying43 (by kernel_rfl) (by kernel_rfl) (by kernel_rfl) (by kernel_rfl) (by omega) rfl (.mk _ 0 1 1) s1 (flat [[1, (d : Int), 0, x, 2, ((S.list 2).length : Int)]]) (flat (showEv S d 1)) rfl rfl (one_row _ _ 6 [1, (d : Int), 0, x, 2, ((S.list 2).length : Int)] rfl (by go_simp)) (room_one _ _ 6 [1, (d : Int), 0, x, 2, ((S.list 2).length : Int)] rfl (by go_simp) (by go_simp)) (HO.out.cells.grow (by repeat (first | exact Grow.refl _ | refine Grow.andr ?_ | refine Grow.plus ?_ _ | refine Grow.alloc ?_ _ | refine Grow.drew ?_ | refine Grow.drewN ?_ _))) (flat_oneCell _) (flat_oneCell _) (by have h1 := HO.out.cells.len; have h2 := showEv_len S d 1; show 1 + s1.n ≤ 4194304; omega) ?_); intro s3 w3 c1 c2 c3 c4 c5 c6; have hb3 : ∀ b, s3.owns b → w.heap.size ≤ b ∧ b < w3.heap.size := (fun b hb => by rcases c4 b hb with h | h; exact ⟨by have h : b = w.heap.size + 1 := h; omega, Nat.lt_of_lt_of_le (by have h : b = w.heap.size + 1 := h; simp only [plus_size, alloc_size']; omega) c3.size⟩; exact ⟨Nat.le_trans (Grow.size (by repeat (first | exact Grow.refl _ | refine Grow.andr ?_ | refine Grow.plus ?_ _ | refine Grow.alloc ?_ _ | refine Grow.drew ?_ | refine Grow.drewN ?_ _))) h.1, h.2⟩); obtain ⟨y3, rfl⟩ : Grow (w.alloc (.cells (stA V S.num) 29)) w3 := c3.grow_of (by repeat (first | exact Grow.refl _ | refine Grow.andr ?_ | refine Grow.plus ?_ _ | refine Grow.alloc ?_ _ | refine Grow.drew ?_ | refine Grow.drewN ?_ _)) (fun j hj => by have hj : j = w.heap.size + 1 := hj; rw [alloc_size']; omega); have C3 := Lib.hid c1; have R3 := Lib.hid c2; have B3 := Lib.hid hb3; have N3 : Hid (s3.n ≤ 2) := (by rw [Hid, c5]; have h1 := HO.out.cells.len; have h2 := showEv_len S d 1; show 1 + s1.n ≤ 2; omega); clear c1 c2 c3 c4 c5 c6 hb3) | (go_at_call 43; go_must (refine (HP.out _ (.mk _ 0 1 1) (one_int _ _ _ (by go_simp)).ints).mono ?_); rintro e' w' ⟨rfl, hww⟩; subst w') | (go_at_call 24; refine (cloned_ints _ (V.list 2) (S.list 2) ((HR.out.list 2 (by omega)).grow (by repeat (first | exact Grow.refl _ | refine Grow.andr ?_ | refine Grow.plus ?_ _ | refine Grow.alloc ?_ _ | refine Grow.drew ?_ | refine Grow.drewN ?_ _))) hlH).mono ?_; rintro e' w' ⟨s4, rfl, hO, _, n4, rfl⟩; have O4 := Lib.hid hO; clear hO) | (at_builtin; refine wpList_append_cells rfl _ _ 43 rfl 42 Tryd.t42 (.agg (cellsOf (List.replicate 6 0))) 6 48 Tryd.underlying43 (by kernel_rfl) (by kernel_rfl) (by kernel_rfl) (by kernel_rfl) (by omega) rfl s3 (.mk _ 0 1 1) (flat ([1, (d : Int), 0, x, 2, ((S.list 2).length : Int)] :: showEv S d 1)) (flat [[1, gt (S.list 2 ++ [(d : Int)]) kn, 2, (kn : Int), 0, ((S.list 0).length : Int) - 1]]) rfl rfl (C3.out.grow (by repeat (first | exact Grow.refl _ | refine Grow.andr ?_ | refine Grow.plus ?_ _ | refine Grow.alloc ?_ _ | refine Grow.drew ?_ | refine Grow.drewN ?_ _))) (R3.out.grow (by repeat (first | exact Grow.refl _ | refine Grow.andr ?_ | refine Grow.plus ?_ _ | refine Grow.alloc ?_ _ | refine Grow.drew ?_ | refine Grow.drewN ?_ _))) (one_row _ _ 6 [1, gt (S.list 2 ++ [(d : Int)]) kn, 2, (kn : Int), 0, ((S.list 0).length : Int) - 1] rfl (by go_simp)) (flat_oneCell _) (flat_oneCell _) (by have := N3.out; simp only [Sl.n] at this ⊢; omega) ?_; intro s6 w6 c1 c2 c3 c4 c5 c6; have hb6 : ∀ b, s6.owns b → w.heap.size ≤ b ∧ b < w6.heap.size := (fun b hb => by rcases c4 b hb with h | h; exact ⟨(B3.out b h).1, Nat.lt_of_lt_of_le (B3.out b h).2 (Nat.le_trans (Grow.size (by repeat (first | exact Grow.refl _ | refine Grow.andr ?_ | refine Grow.plus ?_ _ | refine Grow.alloc ?_ _ | refine Grow.drew ?_ | refine Grow.drewN ?_ _))) c3.size)⟩; exact ⟨Nat.le_trans (Grow.size (by repeat (first | exact Grow.refl _ | refine Grow.andr ?_ | refine Grow.plus ?_ _ | refine Grow.alloc ?_ _ | refine Grow.drew ?_ | refine Grow.drewN ?_ _))) h.1, h.2⟩); obtain ⟨y6, rfl⟩ : Grow w w6 := c3.grow_of (by repeat (first | exact Grow.refl _ | refine Grow.andr ?_ | refine Grow.plus ?_ _ | refine Grow.alloc ?_ _ | refine Grow.drew ?_ | refine Grow.drewN ?_ _)) (fun j hj => (B3.out j hj).1); have C6 := Lib.hid c1; have R6 := Lib.hid c2; have B6 := Lib.hid hb6; clear c1 c2 c3 c4 c5 c6 hb6) | (at_builtin; refine wpList_append_cells rfl _ _ 23 rfl 3 Tryd.t3 (.int .i64 0) 1 8 Tryd.underlying23 (by kernel_rfl) (by kernel_rfl) (by kernel_rfl) (by kernel_rfl) (by omega) rfl s4 (.mk _ 0 1 1) ((S.list 2).map I) [I (d : Int)] rfl rfl (O4.out.cells.grow (by repeat (first | exact Grow.refl _ | refine Grow.andr ?_ | refine Grow.plus ?_ _ | refine Grow.alloc ?_ _ | refine Grow.drew ?_ | refine Grow.drewN ?_ _))) (O4.out.room.grow (by repeat (first | exact Grow.refl _ | refine Grow.andr ?_ | refine Grow.plus ?_ _ | refine Grow.alloc ?_ _ | refine Grow.drew ?_ | refine Grow.drewN ?_ _))) (one_int _ _ _ (by go_simp)) (flat_one _) (flat_one [(d : Int)]) (by have := O4.out.cells.ints.len; simp only [Sl.n] at this ⊢; omega) ?_; intro s5 w5 c1 c2 c3 c4 c5 c6; have hI5 : Ints w5 s5 (S.list 2 ++ [(d : Int)]) := (by refine Cells.ints ?_; rw [List.map_append]; exact c1); have hn5 : s5.n = (S.list 2).length + 1 := (by have := hI5.len; rw [List.length_append] at this; exact this); have hc5 := hI5.cell kn (by simp; omega); have hg5 : ¬ s5.b < (w.alloc (.cells (stA V S.num) 29)).heap.size := (by rcases c4 _ (owns_of hI5 (by simp)) with h | h; exact Nat.not_lt.2 (Nat.le_trans (Grow.size (by repeat (first | exact Grow.refl _ | refine Grow.andr ?_ | refine Grow.plus ?_ _ | refine Grow.alloc ?_ _ | refine Grow.drew ?_ | refine Grow.drewN ?_ _))) (O4.out.lt _ h).1); exact Nat.not_lt.2 (Nat.le_trans (Grow.size (by repeat (first | exact Grow.refl _ | refine Grow.andr ?_ | refine Grow.plus ?_ _ | refine Grow.alloc ?_ _ | refine Grow.drew ?_ | refine Grow.drewN ?_ _))) h.1)); have hk5 : (kn : Int) < ((S.list 2).length : Int) + 1 := (by omega); obtain ⟨y5, rfl⟩ : Grow ((w.alloc (.cells (stA V S.num) 29)).plus y3) w5 := c3.grow_of (by repeat (first | exact Grow.refl _ | refine Grow.andr ?_ | refine Grow.plus ?_ _ | refine Grow.alloc ?_ _ | refine Grow.drew ?_ | refine Grow.drewN ?_ _)) (fun j hj => Nat.le_trans (Grow.size (by repeat (first | exact Grow.refl _ | refine Grow.andr ?_ | refine Grow.plus ?_ _ | refine Grow.alloc ?_ _ | refine Grow.drew ?_ | refine Grow.drewN ?_ _))) (O4.out.lt j hj).1); rw [plus_plus, plus_cell, if_neg hg5] at hc5; rw [alloc_size'] at hg5; clear c1 c2 c3 c4 c5 c6 hI5))
  go_ret3
  refine ⟨s6, rfl, Cells.rows (l := ([1, (d : Int), 0, x, 2, ((S.list 2).length : Int)] :: showEv S d 1) ++ [[1, gt (S.list 2 ++ [(d : Int)]) kn, 2, (kn : Int), 0, ((S.list 0).length : Int) - 1]]) (by rw [flat_append]; exact C6.out.grow (by repeat (first | exact Grow.refl _ | refine Grow.andr ?_ | refine Grow.plus ?_ _ | refine Grow.alloc ?_ _ | refine Grow.drew ?_ | refine Grow.drewN ?_ _))) (by omega) (wid_of (fun r hr => ?_)), R6.out.grow (by repeat (first | exact Grow.refl _ | refine Grow.andr ?_ | refine Grow.plus ?_ _ | refine Grow.alloc ?_ _ | refine Grow.drew ?_ | refine Grow.drewN ?_ _)), fun b hb => ⟨(B6.out b hb).1, Nat.lt_of_lt_of_le (B6.out b hb).2 (Grow.size (by repeat (first | exact Grow.refl _ | refine Grow.andr ?_ | refine Grow.plus ?_ _ | refine Grow.alloc ?_ _ | refine Grow.drew ?_ | refine Grow.drewN ?_ _)))⟩, (by repeat (first | exact Grow.refl _ | refine Grow.andr ?_ | refine Grow.plus ?_ _ | refine Grow.alloc ?_ _ | refine Grow.drew ?_ | refine Grow.drewN ?_ _))⟩
  rw [List.mem_append, List.mem_cons] at hr
  rcases hr with (rfl | hr) | hr
  · rfl
  · exact showEv_wid S d 1 r hr
  · rw [List.mem_singleton] at hr; subst hr; rfl
theorem judge_lost1 (S : St) (V : SV) (w : World) (R : RepSt w V S) (hS : Small S) (d : Nat) (draw : Int) (h : d < S.objs.length) (h0 : gt (rowAt S.objs d) 3 = 1) (hx : idxL (S.list 1) d < 0) :
    Calls Tryd.prog 17 #[.agg (stA V S.num), .int .i64 d, .int .i64 draw] w (JudgePost w (.error 12)) := by
  have hN := R.objs.len
  obtain ⟨hb, hw, hsz, hsub, hcell⟩ := R.objs.at (by omega) d h
  have hc := hcell 3 (by omega)
  rw [h0] at hc
  clear hcell h0
  have HR := Lib.hid R
  have HI := Lib.hid (fun W g => index_any W (V.list 1) (S.list 1) d ((R.list 1 (by omega)).grow g) (hS.list 1 (by omega)))
  generalize idxL (S.list 1) d = x at *
  clear R
  go_enter Tryd.func17, Tryd.ntmps17
  go_wp2_with (go_at_call 41; refine (HI.out _ (by repeat (first | exact Grow.refl _ | refine Grow.andr ?_ | refine Grow.plus ?_ _ | refine Grow.alloc ?_ _ | refine Grow.drew ?_ | refine Grow.drewN ?_ _))).mono ?_; rintro e' w' ⟨rfl, hww⟩; subst w')
  go_ret3
  exact ⟨rfl, (by repeat (first | exact Grow.refl _ | refine Grow.andr ?_ | refine Grow.plus ?_ _ | refine Grow.alloc ?_ _ | refine Grow.drew ?_ | refine Grow.drewN ?_ _))⟩
set_option maxRecDepth 100000 in
set_option maxHeartbeats 2000000 in
theorem judge_ok1 (S : St) (V : SV) (w : World) (R : RepSt w V S) (hS : Small S) (d : Nat) (draw : Int) (h : d < S.objs.length) (h0 : gt (rowAt S.objs d) 3 = 1) (hx : ¬ idxL (S.list 1) d < 0) (hlib : 0 < (S.list 1).length) :
    Calls Tryd.prog 17 #[.agg (stA V S.num), .int .i64 d, .int .i64 draw] w (JudgePost w (.ok ([1, (d : Int), 1, idxL (S.list 1) d, 3, ((S.list 3).length : Int)] :: showEv S d 2 ++ [[1, gt (S.list 3 ++ [(d : Int)]) (belowI draw ((S.list 3).length + 1)).toNat, 3, belowI draw ((S.list 3).length + 1), 1, ((S.list 1).length : Int) - 1]], gt (S.list 3 ++ [(d : Int)]) (belowI draw ((S.list 3).length + 1)).toNat))) := by
  have hN := R.objs.len
  have hlH := hS.list 3 (by omega)
  have hlZ := hS.list 1 (by omega)
  have hnH := (R.list 3 (by omega)).len
  have hnZ := (R.list 1 (by omega)).len
  obtain ⟨hb, hw, hsz, hsub, hcell⟩ := R.objs.at (by omega) d h
  have hc := hcell 3 (by omega)
  rw [h0] at hc
  clear hcell h0
  have HR := Lib.hid R
  have HI := Lib.hid (fun W g => index_any W (V.list 1) (S.list 1) d ((R.list 1 (by omega)).grow g) hlZ)
  have hbl := belowI_in draw ((S.list 3).length + 1) (by omega)
  have hpk : pickR [draw] 0 ((S.list 3).length + 1) = (belowI draw ((S.list 3).length + 1), 1, 0) := by
    unfold pickR
    rw [if_neg (by simp), if_neg (by omega), if_neg (by simp)]; rfl
  have HP := Lib.hid (fun W s r => by have := pick_any W s [draw] 0 ((S.list 3).length + 1) r (by simp) (by omega) (by omega); rw [hpk] at this; exact this)
  generalize hxx : idxL (S.list 1) d = x at *
  have hx0 : ¬ x < 0 := hx
  clear hx hpk
  generalize hkk : belowI draw ((S.list 3).length + 1) = k at *
  obtain ⟨kn, rfl⟩ := Int.eq_ofNat_of_zero_le hbl.1
  have hkn : kn ≤ (S.list 3).length := by omega
  rw [Int.toNat_natCast]
  clear R hkk hxx hbl
  go_enter Tryd.func17, Tryd.ntmps17
  go_wp2_with (first | (go_at_call 41; refine (HI.out _ (by repeat (first | exact Grow.refl _ | refine Grow.andr ?_ | refine Grow.plus ?_ _ | refine Grow.alloc ?_ _ | refine Grow.drew ?_ | refine Grow.drewN ?_ _))).mono ?_; rintro e' w' ⟨rfl, hww⟩; subst w') | (go_at_call 42; refine (show_any S V _ (HR.out.grow (by repeat (first | exact Grow.refl _ | refine Grow.andr ?_ | refine Grow.plus ?_ _ | refine Grow.alloc ?_ _ | refine Grow.drew ?_ | refine Grow.drewN ?_ _))) d _).mono ?_; rintro e' w' ⟨s1, rfl, hO, nx, rfl⟩; have HO := Lib.hid hO; clear hO; dsimp only; apply_assumption; at_builtin; go_must (refine wpList_append_cells rfl _ _ 43 rfl 42 Tryd.t42 (.agg (cellsOf (List.replicate 6 0))) 6 48 Tryd.underlying43 (by kernel_rfl) (by kernel_rfl) (by kernel_rfl) (by kernel_rfl) (by omega) rfl (.mk _ 0 1 1) s1 (flat [[1, (d : Int), 1, x, 3, ((S.list 3).length : Int)]]) (flat (showEv S d 2)) rfl rfl (one_row _ _ 6 [1, (d : Int), 1, x, 3, ((S.list 3).length : Int)] rfl (by go_simp)) (room_one _ _ 6 [1, (d : Int), 1, x, 3, ((S.list 3).length : Int)] rfl (by go_simp) (by go_simp)) (HO.out.cells.grow (by repeat (first | exact Grow.refl _ | refine Grow.andr ?_ | refine Grow.plus ?_ _ | refine Grow.alloc ?_ _ | refine Grow.drew ?_ | refine Grow.drewN ?_ _))) (flat_oneCell _) (flat_oneCell _) (by have h1 := HO.out.cells.len; have h2 := showEv_len S d 2; show 1 + s1.n ≤ 4194304; omega) ?_); intro s3 w3 c1 c2 c3 c4 c5 c6; have hb3 : ∀ b, s3.owns b → w.heap.size ≤ b ∧ b < w3.heap.size := (fun b hb => by rcases c4 b hb with h | h; exact ⟨by have h : b = w.heap.size + 1 := h; omega, Nat.lt_of_lt_of_le (by have h : b = w.heap.size + 1 := h; simp only [plus_size, alloc_size']; omega) c3.size⟩; exact ⟨Nat.le_trans (Grow.size (by repeat (first | exact Grow.refl _ | refine Grow.andr ?_ | refine Grow.plus ?_ _ | refine Grow.alloc ?_ _ | refine Grow.drew ?_ | refine Grow.drewN ?_ _))) h.1, h.2⟩); obtain ⟨y3, rfl⟩ : Grow (w.alloc (.cells (stA V S.num) 29)) w3 := c3.grow_of (by repeat (first | exact Grow.refl _ | refine Grow.andr ?_ | refine Grow.plus ?_ _ | refine Grow.alloc ?_ _ | refine Grow.drew ?_ | refine Grow.drewN ?_ _)) (fun j hj => by have hj : j = w.heap.size + 1 := hj; rw [alloc_size']; omega); have C3 := Lib.hid c1; have R3 := Lib.hid c2; have B3 := Lib.hid hb3; have N3 : Hid (s3.n ≤ 2) := (by rw [Hid, c5]; have h1 := HO.out.cells.len; have h2 := showEv_len S d 2; show 1 + s1.n ≤ 2; omega); clear c1 c2 c3 c4 c5 c6 hb3) | (go_at_call 43; go_must (refine (HP.out _ (.mk _ 0 1 1) (one_int _ _ _ (by go_simp)).ints).mono ?_); rintro e' w' ⟨rfl, hww⟩; subst w') | (go_at_call 24; refine (cloned_ints _ (V.list 3) (S.list 3) ((HR.out.list 3 (by omega)).grow (by repeat (first | exact Grow.refl _ | refine Grow.andr ?_ | refine Grow.plus ?_ _ | refine Grow.alloc ?_ _ | refine Grow.drew ?_ | refine Grow.drewN ?_ _))) hlH).mono ?_; rintro e' w' ⟨s4, rfl, hO, _, n4, rfl⟩; have O4 := Lib.hid hO; clear hO) | (at_builtin; refine wpList_append_cells rfl _ _ 43 rfl 42 Tryd.t42 (.agg (cellsOf (List.replicate 6 0))) 6 48 Tryd.underlying43 (by kernel_rfl) (by kernel_rfl) (by kernel_rfl) (by kernel_rfl) (by omega) rfl s3 (.mk _ 0 1 1) (flat ([1, (d : Int), 1, x, 3, ((S.list 3).length : Int)] :: showEv S d 2)) (flat [[1, gt (S.list 3 ++ [(d : Int)]) kn, 3, (kn : Int), 1, ((S.list 1).length : Int) - 1]]) rfl rfl (C3.out.grow (by repeat (first | exact Grow.refl _ | refine Grow.andr ?_ | refine Grow.plus ?_ _ | refine Grow.alloc ?_ _ | refine Grow.drew ?_ | refine Grow.drewN ?_ _))) (R3.out.grow (by repeat (first | exact Grow.refl _ | refine Grow.andr ?_ | refine Grow.plus ?_ _ | refine Grow.alloc ?_ _ | refine Grow.drew ?_ | refine Grow.drewN ?_ _))) (one_row _ _ 6 [1, gt (S.list 3 ++ [(d : Int)]) kn, 3, (kn : Int), 1, ((S.list 1).length : Int) - 1] rfl (by go_simp)) (flat_oneCell _) (flat_oneCell _) (by have := N3.out; simp only [Sl.n] at this ⊢; omega) ?_; intro s6 w6 c1 c2 c3 c4 c5 c6; have hb6 : ∀ b, s6.owns b → w.heap.size ≤ b ∧ b < w6.heap.size := (fun b hb => by rcases c4 b hb with h | h; exact ⟨(B3.out b h).1, Nat.lt_of_lt_of_le (B3.out b h).2 (Nat.le_trans (Grow.size (by repeat (first | exact Grow.refl _ | refine Grow.andr ?_ | refine Grow.plus ?_ _ | refine Grow.alloc ?_ _ | refine Grow.drew ?_ | refine Grow.drewN ?_ _))) c3.size)⟩; exact ⟨Nat.le_trans (Grow.size (by repeat (first | exact Grow.refl _ | refine Grow.andr ?_ | refine Grow.plus ?_ _ | refine Grow.alloc ?_ _ | refine Grow.drew ?_ | refine Grow.drewN ?_ _))) h.1, h.2⟩); obtain ⟨y6, rfl⟩ : Grow w w6 := c3.grow_of (by repeat (first | exact Grow.refl _ | refine Grow.andr ?_ | refine Grow.plus ?_ _ | refine Grow.alloc ?_ _ | refine Grow.drew ?_ | refine Grow.drewN ?_ _)) (fun j hj => (B3.out j hj).1); have C6 := Lib.hid c1; have R6 := Lib.hid c2; have B6 := Lib.hid hb6; clear c1 c2 c3 c4 c5 c6 hb6) | (at_builtin; refine wpList_append_cells rfl _ _ 23 rfl 3 Tryd.t3 (.int .i64 0) 1 8 Tryd.underlying23 (by kernel_rfl) (by kernel_rfl) (by kernel_rfl) (by kernel_rfl) (by omega) rfl s4 (.mk _ 0 1 1) ((S.list 3).map I) [I (d : Int)] rfl rfl (O4.out.cells.grow (by repeat (first | exact Grow.refl _ | refine Grow.andr ?_ | refine Grow.plus ?_ _ | refine Grow.alloc ?_ _ | refine Grow.drew ?_ | refine Grow.drewN ?_ _))) (O4.out.room.grow (by repeat (first | exact Grow.refl _ | refine Grow.andr ?_ | refine Grow.plus ?_ _ | refine Grow.alloc ?_ _ | refine Grow.drew ?_ | refine Grow.drewN ?_ _))) (one_int _ _ _ (by go_simp)) (flat_one _) (flat_one [(d : Int)]) (by have := O4.out.cells.ints.len; simp only [Sl.n] at this ⊢; omega) ?_; intro s5 w5 c1 c2 c3 c4 c5 c6; have hI5 : Ints w5 s5 (S.list 3 ++ [(d : Int)]) := (by refine Cells.ints ?_; rw [List.map_append]; exact c1); have hn5 : s5.n = (S.list 3).length + 1 := (by have := hI5.len; rw [List.length_append] at this; exact this); have hc5 := hI5.cell kn (by simp; omega); have hg5 : ¬ s5.b < (w.alloc (.cells (stA V S.num) 29)).heap.size := (by rcases c4 _ (owns_of hI5 (by simp)) with h | h; exact Nat.not_lt.2 (Nat.le_trans (Grow.size (by repeat (first | exact Grow.refl _ | refine Grow.andr ?_ | refine Grow.plus ?_ _ | refine Grow.alloc ?_ _ | refine Grow.drew ?_ | refine Grow.drewN ?_ _))) (O4.out.lt _ h).1); exact Nat.not_lt.2 (Nat.le_trans (Grow.size (by repeat (first | exact Grow.refl _ | refine Grow.andr ?_ | refine Grow.plus ?_ _ | refine Grow.alloc ?_ _ | refine Grow.drew ?_ | refine Grow.drewN ?_ _))) h.1)); have hk5 : (kn : Int) < ((S.list 3).length : Int) + 1 := (by omega); obtain ⟨y5, rfl⟩ : Grow ((w.alloc (.cells (stA V S.num) 29)).plus y3) w5 := c3.grow_of (by repeat (first | exact Grow.refl _ | refine Grow.andr ?_ | refine Grow.plus ?_ _ | refine Grow.alloc ?_ _ | refine Grow.drew ?_ | refine Grow.drewN ?_ _)) (fun j hj => Nat.le_trans (Grow.size (by repeat (first | exact Grow.refl _ | refine Grow.andr ?_ | refine Grow.plus ?_ _ | refine Grow.alloc ?_ _ | refine Grow.drew ?_ | refine Grow.drewN ?_ _))) (O4.out.lt j hj).1); rw [plus_plus, plus_cell, if_neg hg5] at hc5; rw [alloc_size'] at hg5; clear c1 c2 c3 c4 c5 c6 hI5))
  go_ret3
  refine ⟨s6, rfl, Cells.rows (l := ([1, (d : Int), 1, x, 3, ((S.list 3).length : Int)] :: showEv S d 2) ++ [[1, gt (S.list 3 ++ [(d : Int)]) kn, 3, (kn : Int), 1, ((S.list 1).length : Int) - 1]]) (by rw [flat_append]; exact C6.out.grow (by repeat (first | exact Grow.refl _ | refine Grow.andr ?_ | refine Grow.plus ?_ _ | refine Grow.alloc ?_ _ | refine Grow.drew ?_ | refine Grow.drewN ?_ _))) (by omega) (wid_of (fun r hr => ?_)), R6.out.grow (by repeat (first | exact Grow.refl _ | refine Grow.andr ?_ | refine Grow.plus ?_ _ | refine Grow.alloc ?_ _ | refine Grow.drew ?_ | refine Grow.drewN ?_ _)), fun b hb => ⟨(B6.out b hb).1, Nat.lt_of_lt_of_le (B6.out b hb).2 (Grow.size (by repeat (first | exact Grow.refl _ | refine Grow.andr ?_ | refine Grow.plus ?_ _ | refine Grow.alloc ?_ _ | refine Grow.drew ?_ | refine Grow.drewN ?_ _)))⟩, (by repeat (first | exact Grow.refl _ | refine Grow.andr ?_ | refine Grow.plus ?_ _ | refine Grow.alloc ?_ _ | refine Grow.drew ?_ | refine Grow.drewN ?_ _))⟩
  rw [List.mem_append, List.mem_cons] at hr
  rcases hr with (rfl | hr) | hr
  · rfl
  · exact showEv_wid S d 2 r hr
  · rw [List.mem_singleton] at hr; subst hr; rfl
theorem judge_any (S : St) (V : SV) (w : World) (R : RepSt w V S) (hS : Small S) (card draw : Int) :
    Calls Tryd.prog 17 #[.agg (stA V S.num), .int .i64 card, .int .i64 draw] w (JudgePost w (judgeEv S card draw)) := by
  unfold judgeEv
  by_cases h : card < 0 ∨ (S.objs.length : Int) ≤ card
  · rw [if_pos h]; exact judge_none S V w R card draw h
  rw [if_neg h]
  obtain ⟨d, rfl⟩ := Int.eq_ofNat_of_zero_le (show 0 ≤ card by omega)
  have hd : d < S.objs.length := by omega
  have hl : ∀ z : Nat, ¬ idxL (S.list z) d < 0 → 0 < (S.list z).length := fun z hz => by
    rcases hq : S.list z with _ | ⟨a, l⟩
    · rw [hq] at hz; exact absurd (show Lib.idxOf [] (d : Int) < 0 by simp [Lib.idxOf, Lib.idxFrom]) hz
    · simp
  simp only [Int.toNat_natCast]
  by_cases z0 : gt (rowAt S.objs d) 3 = 0
  · simp only [z0]
    rw [if_neg (by omega)]
    by_cases hx : idxL (S.list 0) d < 0
    · rw [if_pos (by exact hx)]; exact judge_lost0 S V w R hS d draw hd z0 hx
    · rw [if_neg (by exact hx)]; exact judge_ok0 S V w R hS d draw hd z0 hx (hl 0 hx)
  · by_cases z1 : gt (rowAt S.objs d) 3 = 1
    · simp only [z1]
      rw [if_neg (by omega)]
      by_cases hx : idxL (S.list 1) d < 0
      · rw [if_pos (by exact hx)]; exact judge_lost1 S V w R hS d draw hd z1 hx
      · rw [if_neg (by exact hx)]; exact judge_ok1 S V w R hS d draw hd z1 hx (hl 1 hx)
    · show Calls _ _ _ _ (JudgePost w (if gt (rowAt S.objs d) 3 ≠ 0 ∧ gt (rowAt S.objs d) 3 ≠ 1 then .error 12 else _))
      rw [if_pos ⟨z0, z1⟩]; exact judge_else S V w R d draw hd z0 z1
end Go.Proofs.YtmmkmhpchoelkaaDoor
