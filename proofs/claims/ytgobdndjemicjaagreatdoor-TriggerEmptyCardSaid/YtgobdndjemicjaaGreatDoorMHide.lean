/-
  The walk of know's Hide.
-/
import Derived.Test.YtgobdndjemicjaaGreatDoorMShN
namespace Go.Proofs.YtgobdndjemicjaaGreatDoor
open Go Go.RowKit

@[go_sem] theorem run_build_evSet (w : World) (k a f u v : Int) : (bdRow 122 #[(0, .int .i64 k), (1, .int .i64 a), (2, .int .i64 f), (3, .int .i64 u), (4, .int .i64 v)]).run Tryz.prog w = .ok (.value (.agg (cellsOf [k, a, f, u, v, 0]))) w := by kernel_rfl
set_option maxRecDepth 100000 in
theorem hide_none (S : St) (V : SV) (w : World) (R : RepSt w V S) (id p : Int) (h : id < 0 ∨ (S.objs.length : Int) ≤ id) : Calls Tryz.prog 133 #[.agg (stA V S.num), .int .i64 id, .int .i64 p] w fun e w' => e = .returned Sl.nil.val ∧ Grow w w' := by
  have hN := R.objs.len
  by_cases h0 : id < 0
  · go_enter Tryz.func133, Tryz.ntmps133
    go_wp2_with go_in
    all_goals (go_ret; exact ⟨rfl, grI⟩)
  · have h1 : (S.objs.length : Int) ≤ id := by omega
    clear h
    go_enter Tryz.func133, Tryz.ntmps133
    go_wp2_with go_in
    all_goals (go_ret; exact ⟨rfl, grI⟩)
set_option maxRecDepth 100000 in
set_option maxHeartbeats 1000000 in
theorem hide_same (S : St) (V : SV) (w : World) (R : RepSt w V S) (d : Nat) (p : Int) (h : d < S.objs.length) (hs : hideN (gt (rowAt S.objs d) 17) p = gt (rowAt S.objs d) 17) : Calls Tryz.prog 133 #[.agg (stA V S.num), .int .i64 d, .int .i64 p] w fun e w' => e = .returned Sl.nil.val ∧ Grow w w' := by
  have hN := R.objs.len
  obtain ⟨hb, hw, hsz, hsub, hcell⟩ := R.objs.at (by omega) d h
  have hc := hcell 17 (by omega)
  clear hcell
  unfold hideN at hs
  generalize gt (rowAt S.objs d) 17 = was at *
  have hq : (bits BinOp.andNot .i64 was (bits BinOp.and .i64 p 3) == was) = true := by simpa using hs
  clear hs
  go_enter Tryz.func133, Tryz.ntmps133
  go_wp2_with go_in
  go_ret
  exact ⟨rfl, grI⟩
set_option maxRecDepth 100000 in
set_option maxHeartbeats 1000000 in
theorem hide_event (S : St) (V : SV) (w : World) (R : RepSt w V S) (d : Nat) (p : Int) (h : d < S.objs.length) (hs : ¬ hideN (gt (rowAt S.objs d) 17) p = gt (rowAt S.objs d) 17) : Calls Tryz.prog 133 #[.agg (stA V S.num), .int .i64 d, .int .i64 p] w fun e w' => ∃ s' : Sl, e = .returned s'.val ∧ Own w' s' 122 6 w.heap.size (flat [[2, (d : Int), 17, gt (rowAt S.objs d) 17, hideN (gt (rowAt S.objs d) 17) p, 0]]) ∧ Grow w w' := by
  have hN := R.objs.len
  obtain ⟨hb, hw, hsz, hsub, hcell⟩ := R.objs.at (by omega) d h
  have hc := hcell 17 (by omega)
  clear hcell
  have HQ : ∀ x, hideN x p = bits BinOp.andNot .i64 x (bits BinOp.and .i64 p 3) := fun x => rfl
  generalize gt (rowAt S.objs d) 17 = was at *
  rw [HQ] at hs ⊢
  have hq : (bits BinOp.andNot .i64 was (bits BinOp.and .i64 p 3) == was) = false := by simpa using hs
  clear hs HQ
  go_enter Tryz.func133, Tryz.ntmps133
  go_wp2_with go_in
  go_ret
  refine ⟨.mk (w.heap.size + 1 + 1 + 1) 0 1 1, rfl, ?_, grI⟩
  have h1 := own_one (((w.alloc (.cells (stA V S.num) 29)).alloc (.cells #[.int .i64 p] 3)).alloc (.cells (stA V S.num) 29)) 122 6 [2, (d : Int), 17, was, bits BinOp.andNot .i64 was (bits BinOp.and .i64 p 3), 0] rfl
  simp only [alloc_size'] at h1
  exact h1.mono (by omega)
/-- What Hide hands back. -/
theorem hide_any (S : St) (V : SV) (w : World) (R : RepSt w V S) (id p : Int) : Calls Tryz.prog 133 #[.agg (stA V S.num), .int .i64 id, .int .i64 p] w fun e w' => ∃ s' : Sl, e = .returned s'.val ∧ Own w' s' 122 6 w.heap.size (flat (hideEv S id p)) ∧ Grow w w' := by
  have hnil : ∀ w' : World, Own w' .nil 122 6 w.heap.size (flat []) := fun w' => ⟨⟨by simp [Sl.n, flat], Nat.le_refl _, fun j u hu => by simp [flat] at hu⟩, Nat.zero_le _, rfl, fun b h => h.elim⟩
  unfold hideEv
  by_cases h : id < 0 ∨ (S.objs.length : Int) ≤ id
  · rw [if_pos h]
    refine (hide_none S V w R id p h).mono ?_
    rintro e w' ⟨he, hg⟩
    exact ⟨.nil, he, hnil w', hg⟩
  · rw [if_neg h]
    obtain ⟨d, rfl⟩ := Int.eq_ofNat_of_zero_le (show 0 ≤ id by omega)
    rw [Int.toNat_natCast]
    by_cases hs : hideN (gt (rowAt S.objs d) 17) p = gt (rowAt S.objs d) 17
    · rw [if_pos hs]
      refine (hide_same S V w R d p (by omega) hs).mono ?_
      rintro e w' ⟨he, hg⟩
      exact ⟨.nil, he, hnil w', hg⟩
    · rw [if_neg hs]
      exact hide_event S V w R d p (by omega) hs
end Go.Proofs.YtgobdndjemicjaaGreatDoor
