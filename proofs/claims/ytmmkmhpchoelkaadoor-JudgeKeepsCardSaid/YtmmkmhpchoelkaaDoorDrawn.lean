/-
  The walk of judge's Drawn.
-/
import Derived.Test.YtmmkmhpchoelkaaDoorKnow
import Derived.Test.YtmmkmhpchoelkaaDoorEv2
namespace Go.Proofs.YtmmkmhpchoelkaaDoor
open Go Go.RowKit

/-- The cards that were drawn. -/
def drawnL (l : List (List Int)) : List Int := (l.filter drawsB).map fun e => gt e 1
theorem drawn_succ (l : List (List Int)) (k : Nat) (hk : k < l.length) : drawnL (l.take (k + 1)) = drawnL (l.take k) ++ if drawsB (rowAt l k) = true then [gt (rowAt l k) 1] else [] := by
  have : rowAt l k = l[k] := by simp [rowAt, hk]
  rw [this, List.take_add_one, List.getElem?_eq_getElem hk]
  unfold drawnL
  rw [List.filter_append, List.map_append]
  congr 1
  simp only [Option.toList_some, List.filter_cons, List.filter_nil]
  split <;> simp_all
set_option maxRecDepth 100000 in
set_option maxHeartbeats 2000000 in
theorem drawn_any (w : World) (sl : Sl) (l : List (List Int)) (R : Rows' w sl 6 l) (hn : l.length ≤ 1048576) :
    Calls Tryd.prog 31 #[sl.val] w fun e w' => ∃ s' : Sl, e = .returned s'.val ∧ Ints w' s' (drawnL l) ∧ (∀ b, s'.owns b → w.heap.size ≤ b ∧ b < w'.heap.size) ∧ Grow w w' := by
  have hlen := R.len
  have HR := Lib.hid R
  clear R
  go_enter Tryd.func31, Tryd.ntmps31
  go_wp2_with fail
  go_loopw [3, 8] (fun v i wr => ∃ (k : Nat) (s : Sl), k ≤ l.length ∧ i = .int .i64 k ∧ v = s.val ∧ Cells wr s 1 ((drawnL (l.take k)).map I) ∧ Room wr s 1 ∧ (∀ b, s.owns b → w.heap.size ≤ b ∧ b < wr.heap.size) ∧ s.n ≤ k ∧ Grow w wr) (fun _ i _ => l.length - (intOf i).toNat)
  case atStart => exact ⟨0, .nil, by omega, rfl, rfl, ⟨by simp [drawnL, Sl.n], Nat.le_refl _, fun j u hu => by simp [drawnL] at hu⟩, Room.nil _ _, fun b h => h.elim, by simp [Sl.n], (by repeat (first | exact Grow.refl _ | refine Grow.andr ?_ | refine Grow.plus ?_ _ | refine Grow.alloc ?_ _ | refine Grow.drew ?_ | refine Grow.drewN ?_ _))⟩
  case round =>
    obtain ⟨k, s, hk, rfl, rfl, hC, hRm, hB, hsn, hG⟩ := hrel
    obtain ⟨x, rfl⟩ := hG
    have HC := Lib.hid hC
    have HRm := Lib.hid hRm
    have HB := Lib.hid hB
    clear hC hRm hB
    by_cases hlt : k < l.length
    · obtain ⟨qb, qw, qsz, qsub, _⟩ := HR.out.at (by omega) k hlt
      have HS := Lib.hid (drawn_succ l k hlt)
      generalize rowAt l k = row at *
      cases hd : drawsB row with
      | false =>
        have HS2 : Hid (drawnL (l.take (k + 1)) = drawnL (l.take k)) := by rw [Hid, HS.out, hd]; simp
        have hcon := fun W => draws_any row qw W
        rw [hd] at hcon
        have HCON := Lib.hid hcon
        clear hcon hd
        go_wp2_with (go_at_call 55; refine (HCON.out _).mono ?_; rintro e' w' ⟨rfl, nx, rfl⟩)
        go_roundw
        case rel => exact ⟨k + 1, s, by omega, by go_num, rfl, by rw [HS2.out]; exact HC.out.grow (by repeat (first | exact Grow.refl _ | refine Grow.andr ?_ | refine Grow.plus ?_ _ | refine Grow.alloc ?_ _ | refine Grow.drew ?_ | refine Grow.drewN ?_ _)), HRm.out.grow (by repeat (first | exact Grow.refl _ | refine Grow.andr ?_ | refine Grow.plus ?_ _ | refine Grow.alloc ?_ _ | refine Grow.drew ?_ | refine Grow.drewN ?_ _)), fun b hb => ⟨(HB.out b hb).1, Nat.lt_of_lt_of_le (HB.out b hb).2 (Grow.size (by repeat (first | exact Grow.refl _ | refine Grow.andr ?_ | refine Grow.plus ?_ _ | refine Grow.alloc ?_ _ | refine Grow.drew ?_ | refine Grow.drewN ?_ _)))⟩, by omega, (by repeat (first | exact Grow.refl _ | refine Grow.andr ?_ | refine Grow.plus ?_ _ | refine Grow.alloc ?_ _ | refine Grow.drew ?_ | refine Grow.drewN ?_ _))⟩
        case measure => simp [intOf]; omega
      | true =>
        have HS2 : Hid (drawnL (l.take (k + 1)) = drawnL (l.take k) ++ [gt row 1]) := by rw [Hid, HS.out, hd]; simp
        have hcon := fun W => draws_any row qw W
        rw [hd] at hcon
        have HCON := Lib.hid hcon
        clear hcon hd
        go_wp2_with (first | (go_at_call 55; refine (HCON.out _).mono ?_; rintro e' w' ⟨rfl, nx, rfl⟩) | (at_builtin; refine wpList_append_cells rfl _ _ 23 rfl 3 Tryd.t3 (.int .i64 0) 1 8 Tryd.underlying23 (by kernel_rfl) (by kernel_rfl) (by kernel_rfl) (by kernel_rfl) (by omega) rfl s (.mk _ 0 1 1) ((drawnL (l.take k)).map I) [I (gt row 1)] rfl rfl (HC.out.grow (by repeat (first | exact Grow.refl _ | refine Grow.andr ?_ | refine Grow.plus ?_ _ | refine Grow.alloc ?_ _ | refine Grow.drew ?_ | refine Grow.drewN ?_ _))) (HRm.out.grow (by repeat (first | exact Grow.refl _ | refine Grow.andr ?_ | refine Grow.plus ?_ _ | refine Grow.alloc ?_ _ | refine Grow.drew ?_ | refine Grow.drewN ?_ _))) (one_int _ _ _ (by go_simp)) (flat_one _) (flat_one [gt row 1]) (by simp only [Sl.n] at hsn ⊢; omega) ?_; intro s2 w2 c1 c2 c3 c4 c5 c6; have hb2 : ∀ b, s2.owns b → w.heap.size ≤ b ∧ b < w2.heap.size := (fun b hb => by rcases c4 b hb with h | h; exact ⟨(HB.out b h).1, Nat.lt_of_lt_of_le (HB.out b h).2 (Nat.le_trans (Grow.size (by repeat (first | exact Grow.refl _ | refine Grow.andr ?_ | refine Grow.plus ?_ _ | refine Grow.alloc ?_ _ | refine Grow.drew ?_ | refine Grow.drewN ?_ _))) c3.size)⟩; exact ⟨Nat.le_trans (Grow.size (by repeat (first | exact Grow.refl _ | refine Grow.andr ?_ | refine Grow.plus ?_ _ | refine Grow.alloc ?_ _ | refine Grow.drew ?_ | refine Grow.drewN ?_ _))) h.1, h.2⟩); obtain ⟨y, rfl⟩ : Grow w w2 := c3.grow_of (by repeat (first | exact Grow.refl _ | refine Grow.andr ?_ | refine Grow.plus ?_ _ | refine Grow.alloc ?_ _ | refine Grow.drew ?_ | refine Grow.drewN ?_ _)) (fun j hj => (HB.out j hj).1); have C1 := Lib.hid c1; have C2 := Lib.hid c2; have HB2 := Lib.hid hb2; have C5 := Lib.hid c5; clear c1 c2 c3 c4 c5 c6 hb2))
        go_roundw
        case rel => exact ⟨k + 1, s2, by omega, by go_num, rfl, by rw [HS2.out, List.map_append]; exact C1.out.grow (by repeat (first | exact Grow.refl _ | refine Grow.andr ?_ | refine Grow.plus ?_ _ | refine Grow.alloc ?_ _ | refine Grow.drew ?_ | refine Grow.drewN ?_ _)), C2.out.grow (by repeat (first | exact Grow.refl _ | refine Grow.andr ?_ | refine Grow.plus ?_ _ | refine Grow.alloc ?_ _ | refine Grow.drew ?_ | refine Grow.drewN ?_ _)), fun b hb => ⟨(HB2.out b hb).1, Nat.lt_of_lt_of_le (HB2.out b hb).2 (Grow.size (by repeat (first | exact Grow.refl _ | refine Grow.andr ?_ | refine Grow.plus ?_ _ | refine Grow.alloc ?_ _ | refine Grow.drew ?_ | refine Grow.drewN ?_ _)))⟩, by rw [C5.out]; simp only [Sl.n] at hsn ⊢; omega, (by repeat (first | exact Grow.refl _ | refine Grow.andr ?_ | refine Grow.plus ?_ _ | refine Grow.alloc ?_ _ | refine Grow.drew ?_ | refine Grow.drewN ?_ _))⟩
        case measure => simp [intOf]; omega
    · go_wp2_with fail
      go_ret
      have hkl : k = l.length := by omega
      have hC := HC.out
      rw [hkl, List.take_length] at hC
      exact ⟨s, rfl, (hC.grow (by repeat (first | exact Grow.refl _ | refine Grow.andr ?_ | refine Grow.plus ?_ _ | refine Grow.alloc ?_ _ | refine Grow.drew ?_ | refine Grow.drewN ?_ _))).ints, fun b hb => ⟨(HB.out b hb).1, Nat.lt_of_lt_of_le (HB.out b hb).2 (Grow.size (by repeat (first | exact Grow.refl _ | refine Grow.andr ?_ | refine Grow.plus ?_ _ | refine Grow.alloc ?_ _ | refine Grow.drew ?_ | refine Grow.drewN ?_ _)))⟩, (by repeat (first | exact Grow.refl _ | refine Grow.andr ?_ | refine Grow.plus ?_ _ | refine Grow.alloc ?_ _ | refine Grow.drew ?_ | refine Grow.drewN ?_ _))⟩
end Go.Proofs.YtmmkmhpchoelkaaDoor
