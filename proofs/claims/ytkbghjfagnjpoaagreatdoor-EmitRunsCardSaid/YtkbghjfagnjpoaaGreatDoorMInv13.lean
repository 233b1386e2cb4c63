/-
  The walks of the document's Invert.
-/
import Derived.Test.YtkbghjfagnjpoaaGreatDoorMRun13
namespace Go.Proofs.YtkbghjfagnjpoaaGreatDoor
open Go Go.RowKit

theorem inv_lit (e : List Int) (he : e.length = 6) : ∃ k a b c d f, e = [k, a, b, c, d, f] := by
  match e, he with
  | [k, a, b, c, d, f], _ => exact ⟨k, a, b, c, d, f, rfl⟩
set_option maxRecDepth 100000 in
set_option maxHeartbeats 4000000 in
theorem inv12_any (e : List Int) (he : e.length = 6) (w : World) : Calls Tryz.prog 53 #[.agg (cellsOf e)] w fun r w' => r = .returned (.agg (cellsOf (evInvert e))) ∧ Grow w w' := by
  obtain ⟨k, a, b, c, d, f, rfl⟩ := inv_lit e he
  have hg0 : gt [k, a, b, c, d, f] 0 = k := rfl
  have hg2 : gt [k, a, b, c, d, f] 2 = b := rfl
  have hg3 : gt [k, a, b, c, d, f] 3 = c := rfl
  have hg4 : gt [k, a, b, c, d, f] 4 = d := rfl
  have hg5 : gt [k, a, b, c, d, f] 5 = f := rfl
  by_cases k1 : k = 1
  · subst k1
    have hinv : evInvert [1, a, b, c, d, f] = [1, a, d, f, b, c] := rfl
    rw [hinv]
    go_enter Tryz.func53, Tryz.ntmps53
    go_wp2_with fail
    go_region_held3 (fun W => W.cell? ⟨w.heap.size, 4, none⟩ = some (I d) ∧ W.cell? ⟨w.heap.size, 5, none⟩ = some (I f) ∧ W.cell? ⟨w.heap.size, 2, none⟩ = some (I b) ∧ W.cell? ⟨w.heap.size, 3, none⟩ = some (I c)) (simp [go_sem, *]) (fail)
    all_goals
      go_wp2_with fail
      refine bodyPost_ret (results_Event rfl _ _ (w.heap.size + 1) rfl ?_) rfl ?_
      · go_simp
      · exact ⟨by go_simp, grI⟩
  by_cases k0 : k = 0
  · subst k0
    have hinv : evInvert [0, a, b, c, d, f] = [5, a, b, c, d, f] := rfl
    rw [hinv]
    go_enter Tryz.func53, Tryz.ntmps53
    go_wp2_with fail
    refine bodyPost_ret (results_Event rfl _ _ (w.heap.size + 1) rfl ?_) rfl ?_
    · go_simp
    · exact ⟨by go_simp, grI⟩
  by_cases k5 : k = 5
  · subst k5
    have hinv : evInvert [5, a, b, c, d, f] = [0, a, b, c, d, f] := rfl
    rw [hinv]
    go_enter Tryz.func53, Tryz.ntmps53
    go_wp2_with fail
    refine bodyPost_ret (results_Event rfl _ _ (w.heap.size + 1) rfl ?_) rfl ?_
    · go_simp
    · exact ⟨by go_simp, grI⟩
  by_cases k2 : k = 2
  · subst k2
    have hinv : evInvert [2, a, b, c, d, f] = [2, a, b, d, c, f] := rfl
    rw [hinv]
    go_enter Tryz.func53, Tryz.ntmps53
    go_wp2_with fail
    go_region_held3 (fun W => W.cell? ⟨w.heap.size, 4, none⟩ = some (I d) ∧ W.cell? ⟨w.heap.size, 3, none⟩ = some (I c)) (simp [go_sem, *]) (fail)
    all_goals
      go_wp2_with fail
      refine bodyPost_ret (results_Event rfl _ _ (w.heap.size + 1) rfl ?_) rfl ?_
      · go_simp
      · exact ⟨by go_simp, grI⟩
  by_cases k3 : k = 3
  · subst k3
    have hinv : evInvert [3, a, b, c, d, f] = [3, a, b, d, c, f] := rfl
    rw [hinv]
    go_enter Tryz.func53, Tryz.ntmps53
    go_wp2_with fail
    go_region_held3 (fun W => W.cell? ⟨w.heap.size, 4, none⟩ = some (I d) ∧ W.cell? ⟨w.heap.size, 3, none⟩ = some (I c)) (simp [go_sem, *]) (fail)
    all_goals
      go_wp2_with fail
      refine bodyPost_ret (results_Event rfl _ _ (w.heap.size + 1) rfl ?_) rfl ?_
      · go_simp
      · exact ⟨by go_simp, grI⟩
  by_cases k4 : k = 4
  · subst k4
    have hinv : evInvert [4, a, b, c, d, f] = [4, a, b, d, c, f] := rfl
    rw [hinv]
    go_enter Tryz.func53, Tryz.ntmps53
    go_wp2_with fail
    go_region_held3 (fun W => W.cell? ⟨w.heap.size, 4, none⟩ = some (I d) ∧ W.cell? ⟨w.heap.size, 3, none⟩ = some (I c)) (simp [go_sem, *]) (fail)
    all_goals
      go_wp2_with fail
      refine bodyPost_ret (results_Event rfl _ _ (w.heap.size + 1) rfl ?_) rfl ?_
      · go_simp
      · exact ⟨by go_simp, grI⟩
  have hinv : evInvert [k, a, b, c, d, f] = [k, a, b, c, d, f] := by
    unfold evInvert evSets
    rw [hg0, if_neg k0, if_neg k5, if_neg k1, if_neg (by simp; omega)]
  rw [hinv]
  obtain ⟨t0, t1, t2, t3, t4, t5⟩ : (k == 0) = false ∧ (k == 1) = false ∧ (k == 2) = false ∧ (k == 3) = false ∧ (k == 4) = false ∧ (k == 5) = false := by simp; omega
  clear k0 k1 k2 k3 k4 k5
  go_enter Tryz.func53, Tryz.ntmps53
  go_wp2_with fail
  refine bodyPost_ret (results_Event rfl _ _ (w.heap.size + 1) rfl ?_) rfl ?_
  · go_simp
  · exact ⟨by go_simp, grI⟩
theorem evInvert_len {e : List Int} (he : e.length = 6) : (evInvert e).length = 6 := by
  obtain ⟨k, a, b, c, d, f, rfl⟩ := inv_lit e he
  unfold evInvert
  repeat' split
  all_goals rfl
theorem invR_succ (l : List (List Int)) (k : Nat) (h : k < l.length) : invR (l.drop k) = invR (l.drop (k + 1)) ++ [evInvert (rowAt l k)] := by
  rw [List.drop_eq_getElem_cons h, show l[k] = rowAt l k by simp [rowAt, h]]
  simp [invR]
theorem invR_wid (l : List (List Int)) (h : ∀ i, i < l.length → (rowAt l i).length = 6) : ∀ i, i < (invR l).length → (rowAt (invR l) i).length = 6 := by
  intro i hi
  have := rowAt_in _ i hi
  generalize rowAt (invR l) i = r at *
  unfold invR at this
  simp only [List.mem_reverse, List.mem_map] at this
  obtain ⟨e, he, rfl⟩ := this
  obtain ⟨j, hj, rfl⟩ := rowAt_mem he
  exact evInvert_len (h j hj)
@[go_sem] theorem run_bs_noEvents (w : World) : (bsRow 57 0 #[]).run Tryz.prog w = .ok (.value (noSl w.heap.size).val) (w.alloc (.cells #[] 91)) := by kernel_rfl
set_option maxRecDepth 100000 in
set_option maxHeartbeats 4000000 in
theorem inv13_any (w : World) (sl : Sl) (l : List (List Int)) (RL : Rows' w sl 6 l) (hn : l.length ≤ 1000000) :
    Calls Tryz.prog 21 #[sl.val] w fun e w' => ∃ s : Sl, e = .returned s.val ∧ Rows' w' s 6 (invR l) ∧ (∀ b, s.owns b → w.heap.size ≤ b ∧ b < w'.heap.size) ∧ Grow w w' := by
  have hsn := RL.len
  have hwid := RL.wid
  have HRL := Lib.hid RL
  have HW := Lib.hid hwid
  clear RL hwid
  go_enter Tryz.func21, Tryz.ntmps21
  go_wp2_with fail
  go_loopw [3, 4] (fun v i w2 => ∃ (m : Nat) (s : Sl), m ≤ l.length ∧ i = .int .i64 ((m : Int) - 1) ∧ v = s.val ∧ Made w.heap.size w2 s 6 (flat (invR (l.drop m))) ∧ s.n + m ≤ l.length ∧ Grow w w2) (fun _ i _ => (intOf i + 1).toNat)
  case atStart => exact ⟨l.length, noSl _, by omega, by go_num, by rfl, by rw [List.drop_length]; exact Made.empty 6 (by go_simp) (by go_simp), by simp [noSl, Sl.n], grI⟩
  case round =>
    obtain ⟨m, s, hm, rfl, rfl, hM, hsm, hG⟩ := hrel
    have HG := Lib.hid hG
    have HM := Lib.hid hM
    clear hM hG
    cases m with
    | zero =>
      rw [List.drop_zero] at HM
      go_wp2_with fail
      go_ret
      exact ⟨s, rfl, HM.out.cells.rows (by omega) (invR_wid l HW.out), HM.out.own, HG.out.trans grI⟩
    | succ k =>
      have e1 : ((k + 1 : Nat) : Int) - 1 = (k : Int) := by omega
      rw [e1]
      have hlt : k < l.length := by omega
      obtain ⟨qb, qw, qsz, qsub, _⟩ := (HRL.out.grow HG.out).at (by omega) k hlt
      have HIS := Lib.hid (invR_succ l k hlt)
      have HIV := Lib.hid (fun W => inv12_any (rowAt l k) qw W)
      have hel := evInvert_len qw
      generalize rowAt l k = row at *
      generalize evInvert row = inv at *
      clear e1
      go_wp2_with (first | (go_at_call 53; refine (HIV.out _).mono ?_; rintro e' w' ⟨rfl, n2, rfl⟩) | (at_builtin; refine wpList_made rfl _ _ 57 rfl 91 Tryz.t91 (.agg (cellsOf (List.replicate 6 0))) 6 48 Tryz.underlying57 (by kernel_rfl) (by kernel_rfl) (by kernel_rfl) (by kernel_rfl) (by omega) rfl w s (.mk _ 0 1 1) (flat (invR (l.drop (k + 1)))) (flat [inv]) rfl rfl (HM.out.grow grI) (HG.out.trans grI) (one_row _ _ 6 inv hel (by go_simp)) (flat_oneCell _) (flat_oneCell _) (by simp only [Sl.n] at hsm ⊢; omega) ?_; intro s2 y2 c1 _ c3 _; have C := Lib.hid (And.intro c1 c3); clear c1 c3))
      go_roundw
      case rel => exact ⟨k, s2, by omega, by go_num, rfl, by rw [HIS.out, flat_append]; exact C.out.1.grow grI, by rw [C.out.2]; simp only [Sl.n] at hsm ⊢; omega, grI⟩
      case measure => simp [intOf]
end Go.Proofs.YtkbghjfagnjpoaaGreatDoor
