/-
  The walks of pay.Ways, of the reference's Ways where there is none, and of the law PayWays.
-/
import Derived.Test.YtondnigiepkobaaCount
import Derived.Test.YtondnigiepkobaaRefWays2
import Derived.Carry
namespace Go.Proofs.Ytondnigiepkobaa
open Go Go.RowKit
open Go.ChangeMaps (setBlock)

/-- The pool behind the first k colours of the cost. -/
def lowTo (p c : List Int) : Nat → List Int
  | 0 => p
  | k + 1 => (lowTo p c k).set k (gt p k - gt c k)
theorem lowTo_len (p c : List Int) : ∀ k, (lowTo p c k).length = p.length
  | 0 => rfl
  | k + 1 => by rw [lowTo, List.length_set, lowTo_len p c k]
theorem lowTo_at (p c : List Int) : ∀ k i, k ≤ p.length → gt (lowTo p c k) i = if i < k then gt p i - gt c i else gt p i
  | 0, i, _ => by simp [lowTo]
  | k + 1, i, h => by
    rw [lowTo, gt_set _ _ _ _ (by rw [lowTo_len]; omega), lowTo_at p c k i (by omega)]
    by_cases e : k = i
    · subst e; rw [if_pos rfl, if_pos (by omega)]
    · rw [if_neg e]
      by_cases h2 : i < k
      · rw [if_pos h2, if_pos (by omega)]
      · rw [if_neg h2, if_neg (by omega)]
theorem lowTo_perm {p c : List Int} (hp : p.length = 6) (hc : c.length = 6) : (lowTo p c 5).Perm (backTo p c 6) := by
  match p, c, hp, hc with
  | [p0, p1, p2, p3, p4, p5], [c0, c1, c2, c3, c4, c5], _, _ =>
    have e : lowTo [p0, p1, p2, p3, p4, p5] [c0, c1, c2, c3, c4, c5] 5 = (backTo [p0, p1, p2, p3, p4, p5] [c0, c1, c2, c3, c4, c5] 6).reverse := rfl
    rw [e]
    exact List.reverse_perm _

@[go_sem ↓] theorem alloc_map_cell (w : World) (c : Array MapEntry) (t : Nat) (n i : Nat) : (w.alloc (.map c t)).cell? ⟨n, i, Option.none⟩ = if n = w.heap.size then none else w.cell? ⟨n, i, Option.none⟩ := by
  split
  · rename_i h; subst h; simp only [World.cell?, heap_alloc_new]
  · rename_i h; exact World.cell?_alloc_old w _ _ h
@[go_sem] theorem blk_alloc_map (w : World) (c : Array MapEntry) (t : Nat) (n : Nat) : (w.alloc (.map c t)).blk n = if n = w.heap.size then #[] else w.blk n := by
  split
  · rename_i h; subst h; simp only [World.blk, heap_alloc_new]
  · rename_i h
    simp only [World.blk, World.alloc, Array.getElem?_push, if_neg h]
theorem setBlock_new (w : World) (o p : Obj) : setBlock (w.alloc p) w.heap.size o = w.alloc o := by
  unfold setBlock World.alloc
  congr 1
  apply Array.ext_getElem?
  intro k
  simp only [Array.getElem?_push, Array.getElem?_setIfInBounds, Array.size_push]
  by_cases hk : k = w.heap.size
  · subst hk; simp
  · rw [if_neg (Ne.symm hk), if_neg hk, if_neg hk]
theorem count_new (r : List Int) (left : Int) (hr : r.length = 6) (hg : ∀ i, 0 ≤ gt r i ∧ gt r i ≤ 60) (h0 : 0 ≤ left) (h1 : left ≤ 1000) (w : World) (b : Nat) (hb : b = w.heap.size) :
    Calls Try.prog 23 #[.map (some b), .agg (cellsOf (r ++ [0, left]))] (w.alloc (.map #[] 0)) fun e w' => e = .returned (.int .i64 (waysL r left)) ∧ Grow w w' := by
  subst hb
  refine (count_any 6 r 0 left #[] 0 0 w.heap.size (w.alloc (.map #[] 0)) hr rfl hg h0 h1 memo_start (by rw [room6]; omega) (heap_alloc_eq _ _)).mono ?_
  rintro e w' ⟨rfl, es, cl, x, rfl, _⟩
  refine ⟨rfl, ?_⟩
  rw [setBlock_new]
  exact (by repeat (first | exact Grow.refl _ | refine Grow.plus ?_ _ | refine Grow.alloc ?_ _ | refine Grow.drew ?_))

set_option maxHeartbeats 800000 in
theorem ways_yes (p c : List Int) (hp : p.length = 6) (hc : c.length = 6) (hcan : canL p c = true) (h60 : p.sum ≤ 60) (w : World) :
    Calls Try.prog 16 #[.agg (cellsOf p), .agg (cellsOf c)] w fun e w' => e = .returned (.tuple #[.int .i64 (waysL (backTo p c 6) (gt c 5)), .nilIface]) ∧ Grow w w' := by
  have gp := (canL_good hcan).1
  have gc := (canL_good hcan).2
  have GP := Lib.hid gp
  have GC := Lib.hid gc
  have F := free_of hp hcan h60
  have HC := Lib.hid hcan
  go_enter Try.func16, Try.ntmps16
  go_wp2_with (first | (go_at_call 19; refine (both_any _ _ hp hc _).mono ?_; rintro e w' ⟨rfl, nx, rfl⟩) | (go_at_call 11; refine (can_any _ _ hp hc _).mono ?_; rintro e w' ⟨rfl, nx, rfl⟩) | (go_at_call 21; refine (total_any _ (by assumption) GP.out _).mono ?_; rintro e w' ⟨rfl, nx, rfl⟩))
  clear gp gc hcan
  go_loopw [6, 23] (fun _ i wr => ∃ k : Nat, k ≤ 5 ∧ i = .int .i64 k ∧ Grow ((w.alloc (.cells (cellsOf (lowTo p c k)) 23)).alloc (.cells (cellsOf c) 23)) wr) (fun _ i _ => 5 - (intOf i).toNat)
  case atStart => exact ⟨0, by omega, rfl, (by repeat (first | exact Grow.refl _ | refine Grow.plus ?_ _ | refine Grow.alloc ?_ _ | refine Grow.drew ?_))⟩
  case round =>
    obtain ⟨k, hk, rfl, x, rfl⟩ := hrel
    have hl := lowTo_len p c k
    have bp := goodL_gt GP.out k
    have bc := goodL_gt GC.out k
    by_cases hlt : k < 5
    · have hlk : gt (lowTo p c k) k = gt p k := by rw [lowTo_at _ _ _ _ (by omega), if_neg (by omega)]
      have hk6 : k < 6 := by omega
      go_wp2_with fail
      refine wp_region_order [0, 1, 2, 3, 4, 5, 6, 7] 8 [] (by kernel_rfl) (by kernel_rfl) ?_; simp only [pickO, List.getElem?_cons_zero, List.getElem?_cons_succ]; (repeat (go_big_quiet_step ( fail ))); refine wpQuiet_nil ?_; rintro _ ⟨nx, rfl⟩
      go_wp2_with fail
      go_roundw
      case rel => exact ⟨k + 1, by omega, by go_num, (by repeat (first | exact Grow.refl _ | refine Grow.plus ?_ _ | refine Grow.alloc ?_ _ | refine Grow.drew ?_))⟩
      case measure => simp [intOf]; omega
    · have HK : Hid (k = 5) := by unfold Hid; omega
      have HT : Hid (∀ i, 0 ≤ gt (lowTo p c k) i ∧ gt (lowTo p c k) i ≤ 60) := by
        intro i
        rw [lowTo_at _ _ _ _ (by omega)]
        have h1 := F.pos i
        have h2 := F.top i
        unfold freeAt at h1 h2
        rw [HK.out]
        exact ⟨h1, h2⟩
      have b5 := goodL_gt GC.out 5
      have HW : Hid (waysL (lowTo p c k) (gt c 5) = waysL (backTo p c 6) (gt c 5)) := by rw [Hid, HK.out]; exact waysL_perm (lowTo_perm hp hc) _
      have hmm := @run_makeMap Try.prog
      go_wp2_with fail
      go_at_call 23
      refine (count_new (lowTo p c k) (gt c 5) (by rw [hl, hp]) HT.out b5.1 b5.2 _ _ ?_).mono ?_
      · go_simp
      rintro e w' ⟨rfl, nx, rfl⟩
      go_wp2_with fail
      go_ret2
      exact ⟨by rw [← HW.out]; rfl, (by repeat (first | exact Grow.refl _ | refine Grow.plus ?_ _ | refine Grow.alloc ?_ _ | refine Grow.drew ?_))⟩

set_option maxHeartbeats 800000 in
theorem ways_cant (p c : List Int) (hp : p.length = 6) (hc : c.length = 6) (gp : goodL p = true) (gc : goodL c = true) (hcan : canL p c = false) (h60 : p.sum ≤ 60) (w : World) :
    Calls Try.prog 16 #[.agg (cellsOf p), .agg (cellsOf c)] w fun e w' => e = .returned (.tuple #[.int .i64 0, .nilIface]) ∧ Grow w w' := by
  have GP := Lib.hid gp
  go_enter Try.func16, Try.ntmps16
  go_wp2_with (first | (go_at_call 19; refine (both_any _ _ hp hc _).mono ?_; rintro e w' ⟨rfl, nx, rfl⟩) | (go_at_call 11; refine (can_any _ _ hp hc _).mono ?_; rintro e w' ⟨rfl, nx, rfl⟩) | (go_at_call 21; refine (total_any _ (by assumption) GP.out _).mono ?_; rintro e w' ⟨rfl, nx, rfl⟩))
  go_ret2
  exact ⟨rfl, (by repeat (first | exact Grow.refl _ | refine Grow.plus ?_ _ | refine Grow.alloc ?_ _ | refine Grow.drew ?_))⟩

set_option maxHeartbeats 800000 in
theorem ways_over (p c : List Int) (hp : p.length = 6) (hc : c.length = 6) (gp : goodL p = true) (gc : goodL c = true) (h60 : ¬ p.sum ≤ 60) (w : World) :
    Calls Try.prog 16 #[.agg (cellsOf p), .agg (cellsOf c)] w fun e w' => e = .returned (.tuple #[.int .i64 0, .iface 37 (.int .i64 1)]) ∧ Grow w w' := by
  have GP := Lib.hid gp
  go_enter Try.func16, Try.ntmps16
  go_wp2_with (first | (go_at_call 19; refine (both_any _ _ hp hc _).mono ?_; rintro e w' ⟨rfl, nx, rfl⟩) | (go_at_call 11; refine (can_any _ _ hp hc _).mono ?_; rintro e w' ⟨rfl, nx, rfl⟩) | (go_at_call 21; refine (total_any _ (by assumption) GP.out _).mono ?_; rintro e w' ⟨rfl, nx, rfl⟩))
  go_ret2
  exact ⟨rfl, (by repeat (first | exact Grow.refl _ | refine Grow.plus ?_ _ | refine Grow.alloc ?_ _ | refine Grow.drew ?_))⟩

set_option maxHeartbeats 800000 in
theorem ways_bad (p c : List Int) (hp : p.length = 6) (hc : c.length = 6) (hg : (goodL p && goodL c) = false) (w : World) :
    Calls Try.prog 16 #[.agg (cellsOf p), .agg (cellsOf c)] w fun e w' => e = .returned (.tuple #[.int .i64 0, .iface 37 (.int .i64 2)]) ∧ Grow w w' := by
  go_enter Try.func16, Try.ntmps16
  go_wp2_with (first | (go_at_call 19; refine (both_any _ _ hp hc _).mono ?_; rintro e w' ⟨rfl, nx, rfl⟩))
  go_ret2
  exact ⟨rfl, (by repeat (first | exact Grow.refl _ | refine Grow.plus ?_ _ | refine Grow.alloc ?_ _ | refine Grow.drew ?_))⟩

set_option maxHeartbeats 800000 in
theorem refWays_cant (p c : List Int) (hp : p.length = 6) (hc : c.length = 6) (gp : goodL p = true) (gc : goodL c = true) (hcan : canL p c = false) (h60 : p.sum ≤ 60) (w : World) :
    Calls Try.prog 17 #[.agg (cellsOf p), .agg (cellsOf c)] w fun e w' => e = .returned (.tuple #[.int .i64 0, .int .i64 0]) ∧ Grow w w' := by
  have GP := Lib.hid gp
  go_enter Try.func17, Try.ntmps17
  go_wp2_with (first | (go_at_call 14; refine (refGood_any _ (by assumption) _).mono ?_; rintro e w' ⟨rfl, nx, rfl⟩) | (go_at_call 12; refine (refCan_any _ _ hp hc _).mono ?_; rintro e w' ⟨rfl, nx, rfl⟩) | (go_at_call 24; refine (refTotal_any _ hp GP.out _).mono ?_; rintro e w' ⟨rfl, nx, rfl⟩))
  go_ret2
  exact ⟨rfl, (by repeat (first | exact Grow.refl _ | refine Grow.plus ?_ _ | refine Grow.alloc ?_ _ | refine Grow.drew ?_))⟩

set_option maxHeartbeats 800000 in
theorem refWays_over (p c : List Int) (hp : p.length = 6) (hc : c.length = 6) (gp : goodL p = true) (gc : goodL c = true) (h60 : ¬ p.sum ≤ 60) (w : World) :
    Calls Try.prog 17 #[.agg (cellsOf p), .agg (cellsOf c)] w fun e w' => e = .returned (.tuple #[.int .i64 0, .int .i64 1]) ∧ Grow w w' := by
  have GP := Lib.hid gp
  go_enter Try.func17, Try.ntmps17
  go_wp2_with (first | (go_at_call 14; refine (refGood_any _ (by assumption) _).mono ?_; rintro e w' ⟨rfl, nx, rfl⟩) | (go_at_call 12; refine (refCan_any _ _ hp hc _).mono ?_; rintro e w' ⟨rfl, nx, rfl⟩) | (go_at_call 24; refine (refTotal_any _ hp GP.out _).mono ?_; rintro e w' ⟨rfl, nx, rfl⟩))
  go_ret2
  exact ⟨rfl, (by repeat (first | exact Grow.refl _ | refine Grow.plus ?_ _ | refine Grow.alloc ?_ _ | refine Grow.drew ?_))⟩

set_option maxHeartbeats 800000 in
theorem refWays_bad (p c : List Int) (hp : p.length = 6) (hc : c.length = 6) (hg : (goodL p && goodL c) = false) (w : World) :
    Calls Try.prog 17 #[.agg (cellsOf p), .agg (cellsOf c)] w fun e w' => e = .returned (.tuple #[.int .i64 0, .int .i64 2]) ∧ Grow w w' := by
  cases ga : goodL p <;> cases gb : goodL c <;> first | (rw [ga, gb] at hg; cases hg; done) | skip
  all_goals
    go_enter Try.func17, Try.ntmps17
    go_wp2_with (go_at_call 14; refine (refGood_any _ (by assumption) _).mono ?_; rintro e w' ⟨rfl, nx, rfl⟩)
    go_ret2
    exact ⟨rfl, (by repeat (first | exact Grow.refl _ | refine Grow.plus ?_ _ | refine Grow.alloc ?_ _ | refine Grow.drew ?_))⟩

set_option maxHeartbeats 800000 in
theorem payWays_any (p c : List Int) (hp : p.length = 6) (hc : c.length = 6) (w : World) :
    Calls Try.prog 5 #[.agg (cellsOf p), .agg (cellsOf c)] w fun e w' => e = .returned (.bool true) ∧ Grow w w' := by
  by_cases hg : (goodL p && goodL c) = true
  · have GP := Lib.hid (and_parts hg).1
    have GC := Lib.hid (and_parts hg).2
    clear hg
    by_cases h60 : p.sum ≤ 60
    · have H6 := Lib.hid h60
      clear h60
      cases hcan : canL p c with
      | true =>
        have HC := Lib.hid hcan
        clear hcan
        go_enter Try.func5, Try.ntmps5
        go_wp2_with (first | (go_at_call 7; refine (alive_any _).mono ?_; rintro e w' ⟨rfl, nx, rfl⟩) | (go_at_call 16; refine (ways_yes p c hp hc HC.out H6.out _).mono ?_; rintro e w' ⟨rfl, nx, rfl⟩) | (go_at_call 17; refine (refWays_yes p c hp hc HC.out H6.out _).mono ?_; rintro e w' ⟨rfl, nx, rfl⟩) | (go_at_call 10; refine (num_nil _).mono ?_; rintro e w' ⟨rfl, rfl⟩))
        go_ret
        exact ⟨ret_bool (by simp), (by repeat (first | exact Grow.refl _ | refine Grow.plus ?_ _ | refine Grow.alloc ?_ _ | refine Grow.drew ?_))⟩
      | false =>
        have HC := Lib.hid hcan
        clear hcan
        go_enter Try.func5, Try.ntmps5
        go_wp2_with (first | (go_at_call 7; refine (alive_any _).mono ?_; rintro e w' ⟨rfl, nx, rfl⟩) | (go_at_call 16; refine (ways_cant p c hp hc GP.out GC.out HC.out H6.out _).mono ?_; rintro e w' ⟨rfl, nx, rfl⟩) | (go_at_call 17; refine (refWays_cant p c hp hc GP.out GC.out HC.out H6.out _).mono ?_; rintro e w' ⟨rfl, nx, rfl⟩) | (go_at_call 10; refine (num_nil _).mono ?_; rintro e w' ⟨rfl, rfl⟩))
        go_ret
        exact ⟨ret_bool (by simp), (by repeat (first | exact Grow.refl _ | refine Grow.plus ?_ _ | refine Grow.alloc ?_ _ | refine Grow.drew ?_))⟩
    · have H6 := Lib.hid h60
      clear h60
      go_enter Try.func5, Try.ntmps5
      go_wp2_with (first | (go_at_call 7; refine (alive_any _).mono ?_; rintro e w' ⟨rfl, nx, rfl⟩) | (go_at_call 16; refine (ways_over p c hp hc GP.out GC.out (by have := H6.out; omega) _).mono ?_; rintro e w' ⟨rfl, nx, rfl⟩) | (go_at_call 17; refine (refWays_over p c hp hc GP.out GC.out (by have := H6.out; omega) _).mono ?_; rintro e w' ⟨rfl, nx, rfl⟩) | (go_at_call 10; refine (num_err 1 rfl _).mono ?_; rintro e w' ⟨rfl, rfl⟩))
      go_ret
      exact ⟨ret_bool (by simp), (by repeat (first | exact Grow.refl _ | refine Grow.plus ?_ _ | refine Grow.alloc ?_ _ | refine Grow.drew ?_))⟩
  · have hg' : (goodL p && goodL c) = false := by simpa using hg
    have HG := Lib.hid hg'
    clear hg hg'
    go_enter Try.func5, Try.ntmps5
    go_wp2_with (first | (go_at_call 7; refine (alive_any _).mono ?_; rintro e w' ⟨rfl, nx, rfl⟩) | (go_at_call 16; refine (ways_bad p c hp hc HG.out _).mono ?_; rintro e w' ⟨rfl, nx, rfl⟩) | (go_at_call 17; refine (refWays_bad p c hp hc HG.out _).mono ?_; rintro e w' ⟨rfl, nx, rfl⟩) | (go_at_call 10; refine (num_err 2 rfl _).mono ?_; rintro e w' ⟨rfl, rfl⟩))
    go_ret
    exact ⟨ret_bool (by simp), (by repeat (first | exact Grow.refl _ | refine Grow.plus ?_ _ | refine Grow.alloc ?_ _ | refine Grow.drew ?_))⟩
end Go.Proofs.Ytondnigiepkobaa
