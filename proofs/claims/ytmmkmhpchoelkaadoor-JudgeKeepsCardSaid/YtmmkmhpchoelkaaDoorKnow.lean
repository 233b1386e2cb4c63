/-
  The walks of rand, and of judge's draws.
  The walk of rand's Pick.
  The walk of know's Show.
-/
import Derived.Test.YtmmkmhpchoelkaaDoorRun
import Derived.Deep.Light
namespace Go.Proofs.YtmmkmhpchoelkaaDoor
open Go Go.RowKit

theorem randCheck_any (s : Sl) (w : World) : Calls Tryd.prog 22 #[s.val] w fun e w' => e = .returned (errV (if 4096 < s.n then 19 else 0)) ∧ w' = w := by
  by_cases h : 4096 < s.n
  · rw [if_pos h]
    go_enter Tryd.func22, Tryd.ntmps22
    go_wp2_with fail
    go_ret
    exact ⟨rfl, rfl⟩
  · rw [if_neg h]
    go_enter Tryd.func22, Tryd.ntmps22
    go_wp2_with fail
    go_ret
    exact ⟨rfl, rfl⟩
/-- The number below n that differs from a draw by a multiple of n. -/
def belowI (d n : Int) : Int := if d.tmod n < 0 then d.tmod n + n else d.tmod n
theorem below_any (d n : Int) (h0 : 0 < n) (h1 : n ≤ 4611686018427387904) (w : World) : Calls Tryd.prog 74 #[.int .i64 d, .int .i64 n] w fun e w' => e = .returned (.int .i64 (belowI d n)) ∧ w' = w := by
  have hm := Int.tmod_lt_of_pos d h0
  have hm2 : -n < d.tmod n := by
    have := Int.tmod_lt_of_pos (-d) h0
    rw [Int.neg_tmod] at this; omega
  have hn : ¬ n = 0 := by omega
  have HB : Hid (belowI d n = if d.tmod n < 0 then d.tmod n + n else d.tmod n) := rfl
  generalize hr : d.tmod n = r at *
  by_cases h : r < 0
  · go_enter Tryd.func74, Tryd.ntmps74
    go_wp2_with fail
    go_ret
    exact ⟨ret_int (by rw [HB.out, if_pos h]), rfl⟩
  · go_enter Tryd.func74, Tryd.ntmps74
    go_wp2_with fail
    go_ret
    exact ⟨ret_int (by rw [HB.out, if_neg (by omega)]), rfl⟩
theorem left_any (s : Sl) (c : Int) (hs : s.n ≤ 1048576) (hc : 0 ≤ c) (hc2 : c ≤ 1048576) (w : World) : Calls Tryd.prog 73 #[s.val, .int .i64 c] w fun e w' => e = .returned (.int .i64 (max ((s.n : Int) - c) 0)) ∧ w' = w := by
  go_enter Tryd.func73, Tryd.ntmps73
  go_wp2_with fail
  go_ret
  exact ⟨rfl, rfl⟩
def drawsB (e : List Int) : Bool := gt e 0 == 1 && (gt e 2 == 0 || gt e 2 == 1) && gt e 4 == gt e 2 + 2
set_option maxRecDepth 100000 in
theorem draws_any (e : List Int) (he : e.length = 6) (w : World) : Calls Tryd.prog 55 #[.agg (cellsOf e)] w fun x w' => x = .returned (.bool (drawsB e)) ∧ Grow w w' := by
  have HB : Hid (drawsB e = (gt e 0 == 1 && (gt e 2 == 0 || gt e 2 == 1) && gt e 4 == gt e 2 + 2)) := rfl
  by_cases h0 : gt e 2 = 0
  · go_enter Tryd.func55, Tryd.ntmps55
    go_wp2_with fail
    all_goals (go_ret; exact ⟨ret_bool (by rw [HB.out]; go_light; simp_all), (by repeat (first | exact Grow.refl _ | refine Grow.andr ?_ | refine Grow.plus ?_ _ | refine Grow.alloc ?_ _ | refine Grow.drew ?_ | refine Grow.drewN ?_ _))⟩)
  · by_cases h1 : gt e 2 = 1
    · go_enter Tryd.func55, Tryd.ntmps55
      go_wp2_with fail
      all_goals (go_ret; exact ⟨ret_bool (by rw [HB.out]; go_light; simp_all), (by repeat (first | exact Grow.refl _ | refine Grow.andr ?_ | refine Grow.plus ?_ _ | refine Grow.alloc ?_ _ | refine Grow.drew ?_ | refine Grow.drewN ?_ _))⟩)
    · have t0 : (gt e 2 == 0) = false := by simpa using h0
      have t1 : (gt e 2 == 1) = false := by simpa using h1
      go_enter Tryd.func55, Tryd.ntmps55
      go_wp2_with fail
      all_goals (go_ret; exact ⟨ret_bool (by rw [HB.out]; go_light; simp_all), (by repeat (first | exact Grow.refl _ | refine Grow.andr ?_ | refine Grow.plus ?_ _ | refine Grow.alloc ?_ _ | refine Grow.drew ?_ | refine Grow.drewN ?_ _))⟩)
end Go.Proofs.YtmmkmhpchoelkaaDoor
namespace Go.Proofs.YtmmkmhpchoelkaaDoor
open Go Go.RowKit

/-- A draw below n, the cursor behind it, an error's number. -/
def pickR (l : List Int) (c n : Int) : Int × Int × Int :=
  if 4096 < l.length then (0, 0, 19) else if n < 1 ∨ c < 0 then (0, 0, 1) else if (l.length : Int) ≤ c then (0, 0, 13) else (belowI (gt l c.toNat) n, c + 1, 0)
theorem belowI_in (d n : Int) (h : 0 < n) : 0 ≤ belowI d n ∧ belowI d n < n := by
  have hm := Int.tmod_lt_of_pos d h
  have hm2 : -n < d.tmod n := by
    have := Int.tmod_lt_of_pos (-d) h
    rw [Int.neg_tmod] at this; omega
  unfold belowI
  split <;> omega
set_option maxRecDepth 100000 in
theorem pick_any (w : World) (s : Sl) (l : List Int) (c n : Int) (R : Ints w s l) (hb : l.length ≤ 1048576) (hc : c ≤ 1048576) (hn : n ≤ 4611686018427387904) :
    Calls Tryd.prog 43 #[s.val, .int .i64 c, .int .i64 n] w fun e w' => e = .returned (.tuple #[.int .i64 (pickR l c n).1, .int .i64 (pickR l c n).2.1, errV (pickR l c n).2.2]) ∧ w' = w := by
  have hlen := R.len
  have HR := Lib.hid R
  clear R
  have HCK := Lib.hid (fun W => randCheck_any s W)
  by_cases h1 : 4096 < l.length
  · have e1 : pickR l c n = (0, 0, 19) := by unfold pickR; rw [if_pos h1]
    rw [e1]
    have hck := HCK.out
    rw [hlen, if_pos h1] at hck
    have HC2 := Lib.hid hck
    clear hck e1
    go_enter Tryd.func43, Tryd.ntmps43
    go_wp2_with (go_at_call 22; refine (HC2.out _).mono ?_; rintro e' w' ⟨rfl, hww⟩; subst w')
    go_ret3
    exact ⟨rfl, rfl⟩
  · have hck := HCK.out
    rw [hlen, if_neg h1] at hck
    have HC2 := Lib.hid hck
    clear hck
    by_cases h2 : n < 1 ∨ c < 0
    · have e1 : pickR l c n = (0, 0, 1) := by unfold pickR; rw [if_neg h1, if_pos h2]
      rw [e1]
      clear e1
      by_cases h3 : n < 1
      · go_enter Tryd.func43, Tryd.ntmps43
        go_wp2_with (go_at_call 22; refine (HC2.out _).mono ?_; rintro e' w' ⟨rfl, hww⟩; subst w')
        go_ret3
        exact ⟨rfl, rfl⟩
      · have h4 : c < 0 := by omega
        clear h2
        go_enter Tryd.func43, Tryd.ntmps43
        go_wp2_with (go_at_call 22; refine (HC2.out _).mono ?_; rintro e' w' ⟨rfl, hww⟩; subst w')
        go_ret3
        exact ⟨rfl, rfl⟩
    · have h3 : ¬ n < 1 := by omega
      have h4 : ¬ c < 0 := by omega
      by_cases h5 : (l.length : Int) ≤ c
      · have e1 : pickR l c n = (0, 0, 13) := by unfold pickR; rw [if_neg h1, if_neg h2, if_pos h5]
        rw [e1]
        clear e1 h2
        have hmx : max ((s.n : Int) - c) 0 = 0 := by omega
        have HL := Lib.hid (fun W => left_any s c (by omega) (by omega) hc W)
        rw [hmx] at HL
        clear hmx
        go_enter Tryd.func43, Tryd.ntmps43
        go_wp2_with (first | (go_at_call 22; refine (HC2.out _).mono ?_; rintro e' w' ⟨rfl, hww⟩; subst w') | (go_at_call 73; refine (HL.out _).mono ?_; rintro e' w' ⟨rfl, hww⟩; subst w'))
        go_ret3
        exact ⟨rfl, rfl⟩
      · obtain ⟨k, rfl⟩ := Int.eq_ofNat_of_zero_le (show 0 ≤ c by omega)
        have e1 : pickR l k n = (belowI (gt l k) n, (k : Int) + 1, 0) := by unfold pickR; rw [if_neg h1, if_neg h2, if_neg h5, Int.toNat_natCast]
        rw [e1]
        clear e1 h2
        obtain ⟨hbb, hcc⟩ := HR.out.at k (by omega)
        have HL := Lib.hid (fun W => left_any s k (by omega) (by omega) hc W)
        generalize hq : max ((s.n : Int) - k) 0 = q at HL
        have hq2 : (q == 0) = false := by simp; omega
        clear hq
        go_enter Tryd.func43, Tryd.ntmps43
        go_wp2_with (first | (go_at_call 22; refine (HC2.out _).mono ?_; rintro e' w' ⟨rfl, hww⟩; subst w') | (go_at_call 73; refine (HL.out _).mono ?_; rintro e' w' ⟨rfl, hww⟩; subst w') | (go_at_call 74; refine (below_any _ _ (by omega) hn _).mono ?_; rintro e' w' ⟨rfl, hww⟩; subst w'))
        go_ret3
        exact ⟨rfl, rfl⟩
end Go.Proofs.YtmmkmhpchoelkaaDoor
namespace Go.Proofs.YtmmkmhpchoelkaaDoor
open Go Go.RowKit

set_option maxRecDepth 100000 in
theorem show_none (S : St) (V : SV) (w : World) (R : RepSt w V S) (id p : Int) (h : id < 0 ∨ (S.objs.length : Int) ≤ id) : Calls Tryd.prog 42 #[.agg (stA V S.num), .int .i64 id, .int .i64 p] w fun e w' => e = .returned Sl.nil.val ∧ Grow w w' := by
  have hN := R.objs.len
  by_cases h0 : id < 0
  · go_enter Tryd.func42, Tryd.ntmps42
    go_wp2_with go_in
    all_goals (go_ret; exact ⟨rfl, (by repeat (first | exact Grow.refl _ | refine Grow.andr ?_ | refine Grow.plus ?_ _ | refine Grow.alloc ?_ _ | refine Grow.drew ?_ | refine Grow.drewN ?_ _))⟩)
  · have h1 : (S.objs.length : Int) ≤ id := by omega
    clear h
    go_enter Tryd.func42, Tryd.ntmps42
    go_wp2_with go_in
    all_goals (go_ret; exact ⟨rfl, (by repeat (first | exact Grow.refl _ | refine Grow.andr ?_ | refine Grow.plus ?_ _ | refine Grow.alloc ?_ _ | refine Grow.drew ?_ | refine Grow.drewN ?_ _))⟩)
/-- Who knows an object when it has been shown. -/
def showN (was p : Int) : Int := bits BinOp.or .i64 was (bits BinOp.and .i64 p 3)
/-- The event by which players know an object. -/
def showEv (S : St) (id : Int) (p : Int) : List (List Int) :=
  if id < 0 ∨ (S.objs.length : Int) ≤ id then []
  else if showN (gt (rowAt S.objs id.toNat) 17) p = gt (rowAt S.objs id.toNat) 17 then []
  else [[2, id, 17, gt (rowAt S.objs id.toNat) 17, showN (gt (rowAt S.objs id.toNat) 17) p, 0]]
theorem own_one (w : World) (t : TypeId) (k : Nat) (r : List Int) (hr : r.length = k) : Own (w.alloc (.cells (cellsOf r) t)) (.mk w.heap.size 0 1 1) t k w.heap.size (flat [r]) := by
  refine ⟨one_row _ _ k r hr (by rw [blk_alloc, if_pos rfl]), by simp [Sl.c, maxLen], rfl, fun b hb => ?_⟩
  have hb : b = w.heap.size := hb
  subst hb
  exact ⟨Nat.le_refl _, cellsOf r, heap_alloc_new w _, by simp [cellsOf, hr, Sl.c]⟩
set_option maxRecDepth 100000 in
set_option maxHeartbeats 1000000 in
theorem show_same (S : St) (V : SV) (w : World) (R : RepSt w V S) (d : Nat) (p : Int) (h : d < S.objs.length) (hs : showN (gt (rowAt S.objs d) 17) p = gt (rowAt S.objs d) 17) : Calls Tryd.prog 42 #[.agg (stA V S.num), .int .i64 d, .int .i64 p] w fun e w' => e = .returned Sl.nil.val ∧ Grow w w' := by
  have hN := R.objs.len
  obtain ⟨hb, hw, hsz, hsub, hcell⟩ := R.objs.at (by omega) d h
  have hc := hcell 17 (by omega)
  clear hcell
  unfold showN at hs
  generalize gt (rowAt S.objs d) 17 = was at *
  have hq : (bits BinOp.or .i64 was (bits BinOp.and .i64 p 3) == was) = true := by simpa using hs
  clear hs
  go_enter Tryd.func42, Tryd.ntmps42
  go_wp2_with go_in
  go_ret
  exact ⟨rfl, (by repeat (first | exact Grow.refl _ | refine Grow.andr ?_ | refine Grow.plus ?_ _ | refine Grow.alloc ?_ _ | refine Grow.drew ?_ | refine Grow.drewN ?_ _))⟩
set_option maxRecDepth 100000 in
set_option maxHeartbeats 1000000 in
theorem show_event (S : St) (V : SV) (w : World) (R : RepSt w V S) (d : Nat) (p : Int) (h : d < S.objs.length) (hs : ¬ showN (gt (rowAt S.objs d) 17) p = gt (rowAt S.objs d) 17) : Calls Tryd.prog 42 #[.agg (stA V S.num), .int .i64 d, .int .i64 p] w fun e w' => ∃ s' : Sl, e = .returned s'.val ∧ Own w' s' 42 6 w.heap.size (flat [[2, (d : Int), 17, gt (rowAt S.objs d) 17, showN (gt (rowAt S.objs d) 17) p, 0]]) ∧ Grow w w' := by
  have hN := R.objs.len
  obtain ⟨hb, hw, hsz, hsub, hcell⟩ := R.objs.at (by omega) d h
  have hc := hcell 17 (by omega)
  clear hcell
  have HQ : ∀ x, showN x p = bits BinOp.or .i64 x (bits BinOp.and .i64 p 3) := fun x => rfl
  generalize gt (rowAt S.objs d) 17 = was at *
  rw [HQ] at hs ⊢
  have hq : (bits BinOp.or .i64 was (bits BinOp.and .i64 p 3) == was) = false := by simpa using hs
  clear hs HQ
  go_enter Tryd.func42, Tryd.ntmps42
  go_wp2_with go_in
  go_ret
  refine ⟨.mk (w.heap.size + 1 + 1 + 1) 0 1 1, rfl, ?_, (by repeat (first | exact Grow.refl _ | refine Grow.andr ?_ | refine Grow.plus ?_ _ | refine Grow.alloc ?_ _ | refine Grow.drew ?_ | refine Grow.drewN ?_ _))⟩
  have h1 := own_one (((w.alloc (.cells (stA V S.num) 29)).alloc (.cells #[.int .i64 p] 3)).alloc (.cells (stA V S.num) 29)) 42 6 [2, (d : Int), 17, was, bits BinOp.or .i64 was (bits BinOp.and .i64 p 3), 0] rfl
  simp only [alloc_size'] at h1
  exact h1.mono (by omega)
/-- What Show hands back. -/
theorem show_any (S : St) (V : SV) (w : World) (R : RepSt w V S) (id p : Int) : Calls Tryd.prog 42 #[.agg (stA V S.num), .int .i64 id, .int .i64 p] w fun e w' => ∃ s' : Sl, e = .returned s'.val ∧ Own w' s' 42 6 w.heap.size (flat (showEv S id p)) ∧ Grow w w' := by
  have hnil : ∀ w' : World, Own w' .nil 42 6 w.heap.size (flat []) := fun w' => ⟨⟨by simp [Sl.n, flat], Nat.le_refl _, fun j u hu => by simp [flat] at hu⟩, Nat.zero_le _, rfl, fun b h => h.elim⟩
  unfold showEv
  by_cases h : id < 0 ∨ (S.objs.length : Int) ≤ id
  · rw [if_pos h]
    refine (show_none S V w R id p h).mono ?_
    rintro e w' ⟨he, hg⟩
    exact ⟨.nil, he, hnil w', hg⟩
  · rw [if_neg h]
    obtain ⟨d, rfl⟩ := Int.eq_ofNat_of_zero_le (show 0 ≤ id by omega)
    rw [Int.toNat_natCast]
    by_cases hs : showN (gt (rowAt S.objs d) 17) p = gt (rowAt S.objs d) 17
    · rw [if_pos hs]
      refine (show_same S V w R d p (by omega) hs).mono ?_
      rintro e w' ⟨he, hg⟩
      exact ⟨.nil, he, hnil w', hg⟩
    · rw [if_neg hs]
      exact show_event S V w R d p (by omega) hs
end Go.Proofs.YtmmkmhpchoelkaaDoor
