/-
  All hits of a right state.
-/
import Derived.Test.YtgobdndjemicjaaGreatDoorMHits
import Derived.Test.YtgobdndjemicjaaGreatDoorMDel
namespace Go.Proofs.YtgobdndjemicjaaGreatDoor
open Go Go.RowKit

/-- All hits, in their order. -/
def rawTo (S : St) (k : Nat) : List (List Int) := ((attackersN S).take k).flatMap (hitsN S)
def rawN (S : St) : List (List Int) := (attackersN S).flatMap (hitsN S)
/-- The hits of a right state. -/
def HitsN (S : St) : List (List Int) := (rawN S).filter nzB
theorem rawTo_succ (S : St) (k : Nat) (h : k < (attackersN S).length) : rawTo S (k + 1) = rawTo S k ++ hitsN S (gt (attackersN S) k) := by
  unfold rawTo
  rw [take_snoc _ _ h, List.flatMap_append]
  simp
theorem hitsN_len (S : St) (a : Int) : (hitsN S a).length ≤ 2 * (blockersN S a).length + 1 := by
  unfold hitsN
  split
  · simp
  · rw [List.length_append, List.length_append, (hitTo_len S a _).1]
    have : (backTo S a (blockersN S a).length).length = (blockersN S a).length := by simp [backTo]
    rw [this]
    split <;> simp <;> omega
theorem rawTo_len (S : St) (hl : (S.list 8).length ≤ 1000) (k : Nat) : k ≤ (attackersN S).length → (rawTo S k).length ≤ k * 2001 := by
  induction k with
  | zero => intro _; simp [rawTo]
  | succ k ih =>
    intro h
    rw [rawTo_succ S k (by omega), List.length_append]
    have h1 := ih (by omega)
    have h2 := hitsN_len S (gt (attackersN S) k)
    have h3 : (blockersN S (gt (attackersN S) k)).length ≤ (S.list 8).length := List.length_filter_le _ _
    omega
theorem attackers_in {S : St} {a : Int} (h : a ∈ attackersN S) : attacksB S a = true := (List.mem_filter.1 h).2
theorem attacks_creature {S : St} {a : Int} (h : attacksB S a = true) : creatureB S a = true := by
  unfold attacksB at h
  rw [Bool.and_eq_true] at h
  exact h.1
theorem rawTo_wid (S : St) (k : Nat) : ∀ r, r ∈ rawTo S k → r.length = 3 := by
  intro r h
  obtain ⟨a, _, ha⟩ := List.mem_flatMap.1 h
  exact hitsN_wid S a r ha
theorem Made.rows3 {base : Nat} {w : World} {s : Sl} {l : List (List Int)} (h : Made base w s 3 (flat l)) (hw : ∀ r, r ∈ l → r.length = 3) : Rows' w s 3 l := h.cells.rows3 hw
set_option maxRecDepth 100000 in
set_option maxHeartbeats 2000000 in
theorem allHits_own (S : St) (V : SV) (w : World) (h : RS S V w) (hl : (S.list 8).length ≤ 1000) :
    Calls Tryz.prog 166 #[.agg (stA V S.num)] w fun e w' => ∃ s : Sl, e = .returned s.val ∧ Rows' w' s 3 (HitsN S) ∧ (∀ b, s.owns b → w.heap.size ≤ b) ∧ Grow w w' := by
  have hal : (attackersN S).length ≤ 1000 := Nat.le_trans (List.length_filter_le _ _) hl
  have HH := Lib.hid h
  have HL := Lib.hid hl
  clear h hl
  go_enter Tryz.func166, Tryz.ntmps166
  go_wp2_with (first | (go_at_call 47; refine ((HH.out.grow grI).check).mono ?_; rintro e w' ⟨rfl, nx, rfl⟩) | (go_at_call 109; refine (attackers_any S V _ (HH.out.grow grI)).mono ?_; rintro e' W1 ⟨sa, rfl, hI, hg⟩; have hbk : W1.blk w.heap.size = stA V S.num := (by rw [blk_grow hg (by rw [plus_size, alloc_size']; omega), blk_plus, if_pos (by rw [alloc_size']; omega), blk_alloc, if_pos rfl]); have hbl : w.heap.size < W1.heap.size := (by have := hg.size; rw [plus_size, alloc_size'] at this; omega); have hsa := hI.len; have HI := Lib.hid (And.intro hI (show Grow w W1 from Grow.trans grI hg)); clear hI hg))
  have HW := Lib.hid (HH.out.grow HI.out.2)
  go_loopw [3, 12] (fun v i wr => ∃ (k : Nat) (s : Sl), k ≤ (attackersN S).length ∧ i = .int .i64 k ∧ v = s.val ∧ Made W1.heap.size wr s 3 (flat (rawTo S k)) ∧ s.n ≤ k * 2001 ∧ Grow W1 wr) (fun _ i _ => (attackersN S).length - (intOf i).toNat)
  case atStart => exact ⟨0, .nil, by omega, rfl, rfl, Made.nil _ _ _, by simp [Sl.n], grI⟩
  case round =>
    obtain ⟨k, s, hk, rfl, rfl, hM, hsn, hG⟩ := hrel
    obtain ⟨x, rfl⟩ := hG
    have HM := Lib.hid hM
    clear hM
    by_cases hlt : k < (attackersN S).length
    · obtain ⟨hlb, hlc⟩ := HI.out.1.at k hlt
      have hcr := creatureB_in (attacks_creature (attackers_in (S := S) (a := gt (attackersN S) k) (by rw [gt_eq _ _ hlt]; exact List.getElem_mem hlt)))
      obtain ⟨c1, c2, _, _⟩ := hcr
      have HST := Lib.hid (rawTo_succ S k hlt)
      have HLN := Lib.hid (rawTo_len S HL.out (k + 1) (by omega))
      generalize gt (attackersN S) k = id at *
      obtain ⟨d, rfl⟩ := Int.eq_ofNat_of_zero_le c1
      have hd : d < S.objs.length := by omega
      have HHL := Lib.hid (hitsN_len S d)
      have HBL : Hid ((blockersN S d).length ≤ 1000) := Nat.le_trans (List.length_filter_le _ _) HL.out
      clear c1 c2
      go_wp2_with (first | (go_at_call 216; refine (hits_any S V _ (HW.out.grow grI) d hd).mono ?_; rintro e' w' ⟨sh, rfl, hr, nh, rfl⟩; (try simp only [drew_plus] at hr); (try simp only [plus_plus] at hr); have HSH := Lib.hid hr; have hshn := hr.len; clear hr) | (at_builtin; refine wpList_made rfl _ _ 183 rfl 185 Tryz.t185 (.agg (cellsOf [0, 0, 0])) 3 24 Tryz.underlying183 (by kernel_rfl) (by kernel_rfl) (by kernel_rfl) (by kernel_rfl) (by omega) rfl W1 s sh (flat (rawTo S k)) (flat (hitsN S d)) rfl rfl (HM.out.grow grI) grI (HSH.out.grow grI).cells (flat_ones _) (flat_ones _) (by have := HHL.out; have := HBL.out; omega) ?_; intro s2 y c1 _ c3 _; have C := Lib.hid (And.intro c1 c3); clear c1 c3))
      go_roundw
      case rel =>
        refine ⟨k + 1, s2, by omega, by go_num, rfl, by rw [HST.out, flat_append]; exact C.out.1.grow grI, ?_, grI⟩
        have h1 := C.out.2
        have h2 := HHL.out
        have h3 := HBL.out
        omega
      case measure => simp [intOf]; omega
    · have hkl : k = (attackersN S).length := by omega
      have hraw : rawTo S k = rawN S := by rw [hkl, rawTo, List.take_length]; rfl
      have HRW := Lib.hid hraw
      clear hraw
      have HRO : Hid (Rows' (W1.plus x) s 3 (rawN S)) := by
        rw [Hid, ← HRW.out]; exact HM.out.rows3 (rawTo_wid S k)
      have hrl : (rawN S).length ≤ 4194304 := by
        have := HRO.out.len
        omega
      go_wp2_with (go_at_call 217; refine (delete_any _ s (rawN S) (HRO.out.grow grI) (HM.out.room.grow grI) hrl).mono ?_; rintro e' W3 ⟨s3, rfl, hr3, hk3, ho3⟩; have HF := Lib.hid (And.intro (And.intro hr3 (show ∀ b, s3.owns b → w.heap.size ≤ b from fun b hb => Nat.le_trans HI.out.2.size (HM.out.own b (ho3 b hb)).1)) (show Grow w W3 from HI.out.2.trans (hk3.grow_of grI (fun b hb => (HM.out.own b hb).1)))); clear hr3 hk3 ho3)
      go_ret
      exact ⟨s3, rfl, HF.out.1.1, HF.out.1.2, HF.out.2⟩
end Go.Proofs.YtgobdndjemicjaaGreatDoor
