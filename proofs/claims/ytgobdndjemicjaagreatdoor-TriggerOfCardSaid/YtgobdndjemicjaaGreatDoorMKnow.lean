/-
  The walks of rand, and of judge's draws.
  The walk of rand's Pick.
  The walk of know's Show.
  The walk of judge's Events.
  Moves, in plain Lean: a move is undone by its opposite; who knows a card does not touch the zones.
-/
import Derived.Test.YtgobdndjemicjaaGreatDoorMDo
import Derived.Deep.Light
import Derived.Test.YtgobdndjemicjaaGreatDoorMEv2
namespace Go.Proofs.YtgobdndjemicjaaGreatDoor
open Go Go.RowKit

/-- The number below n that differs from a draw by a multiple of n. -/
def belowI (d n : Int) : Int := if d.tmod n < 0 then d.tmod n + n else d.tmod n
end Go.Proofs.YtgobdndjemicjaaGreatDoor
namespace Go.Proofs.YtgobdndjemicjaaGreatDoor
open Go Go.RowKit

/-- A draw below n, the cursor behind it, an error's number. -/
def pickR (l : List Int) (c n : Int) : Int × Int × Int :=
  if 4096 < l.length then (0, 0, 19) else if n < 1 ∨ c < 0 then (0, 0, 1) else if (l.length : Int) ≤ c then (0, 0, 13) else (belowI (gt l c.toNat) n, c + 1, 0)
end Go.Proofs.YtgobdndjemicjaaGreatDoor
namespace Go.Proofs.YtgobdndjemicjaaGreatDoor
open Go Go.RowKit

set_option maxRecDepth 100000 in
theorem show_none (S : St) (V : SV) (w : World) (R : RepSt w V S) (id p : Int) (h : id < 0 ∨ (S.objs.length : Int) ≤ id) : Calls Tryz.prog 134 #[.agg (stA V S.num), .int .i64 id, .int .i64 p] w fun e w' => e = .returned Sl.nil.val ∧ Grow w w' := by
  have hN := R.objs.len
  by_cases h0 : id < 0
  · go_enter Tryz.func134, Tryz.ntmps134
    go_wp2_with go_in
    all_goals (go_ret; exact ⟨rfl, grI⟩)
  · have h1 : (S.objs.length : Int) ≤ id := by omega
    clear h
    go_enter Tryz.func134, Tryz.ntmps134
    go_wp2_with go_in
    all_goals (go_ret; exact ⟨rfl, grI⟩)
/-- Who knows an object when it has been shown. -/
def showN (was p : Int) : Int := bits BinOp.or .i64 was (bits BinOp.and .i64 p 3)
/-- The event by which players know an object. -/
def showEv (S : St) (id : Int) (p : Int) : List (List Int) :=
  if id < 0 ∨ (S.objs.length : Int) ≤ id then []
  else if showN (gt (rowAt S.objs id.toNat) 17) p = gt (rowAt S.objs id.toNat) 17 then []
  else [[2, id, 17, gt (rowAt S.objs id.toNat) 17, showN (gt (rowAt S.objs id.toNat) 17) p, 0]]
theorem own_one (w : World) (t : TypeId) (k : Nat) (r : List Int) (hr : r.length = k) : Own (w.alloc (.cells (cellsOf r) t)) (.mk w.heap.size 0 1 1) t k w.heap.size (flat [r]) := by
  refine ⟨one_row _ _ k r hr (by rw [blk_alloc, if_pos rfl]), by simp [Sl.c, maxLen], rfl, fun b hb => ?_⟩
  have hb : b = w.heap.size := hb
  subst hb
  exact ⟨Nat.le_refl _, cellsOf r, heap_alloc_new w _, by simp [cellsOf, hr, Sl.c]⟩
set_option maxRecDepth 100000 in
set_option maxHeartbeats 1000000 in
theorem show_same (S : St) (V : SV) (w : World) (R : RepSt w V S) (d : Nat) (p : Int) (h : d < S.objs.length) (hs : showN (gt (rowAt S.objs d) 17) p = gt (rowAt S.objs d) 17) : Calls Tryz.prog 134 #[.agg (stA V S.num), .int .i64 d, .int .i64 p] w fun e w' => e = .returned Sl.nil.val ∧ Grow w w' := by
  have hN := R.objs.len
  obtain ⟨hb, hw, hsz, hsub, hcell⟩ := R.objs.at (by omega) d h
  have hc := hcell 17 (by omega)
  clear hcell
  unfold showN at hs
  generalize gt (rowAt S.objs d) 17 = was at *
  have hq : (bits BinOp.or .i64 was (bits BinOp.and .i64 p 3) == was) = true := by simpa using hs
  clear hs
  go_enter Tryz.func134, Tryz.ntmps134
  go_wp2_with go_in
  go_ret
  exact ⟨rfl, grI⟩
set_option maxRecDepth 100000 in
set_option maxHeartbeats 1000000 in
theorem show_event (S : St) (V : SV) (w : World) (R : RepSt w V S) (d : Nat) (p : Int) (h : d < S.objs.length) (hs : ¬ showN (gt (rowAt S.objs d) 17) p = gt (rowAt S.objs d) 17) : Calls Tryz.prog 134 #[.agg (stA V S.num), .int .i64 d, .int .i64 p] w fun e w' => ∃ s' : Sl, e = .returned s'.val ∧ Own w' s' 122 6 w.heap.size (flat [[2, (d : Int), 17, gt (rowAt S.objs d) 17, showN (gt (rowAt S.objs d) 17) p, 0]]) ∧ Grow w w' := by
  have hN := R.objs.len
  obtain ⟨hb, hw, hsz, hsub, hcell⟩ := R.objs.at (by omega) d h
  have hc := hcell 17 (by omega)
  clear hcell
  have HQ : ∀ x, showN x p = bits BinOp.or .i64 x (bits BinOp.and .i64 p 3) := fun x => rfl
  generalize gt (rowAt S.objs d) 17 = was at *
  rw [HQ] at hs ⊢
  have hq : (bits BinOp.or .i64 was (bits BinOp.and .i64 p 3) == was) = false := by simpa using hs
  clear hs HQ
  go_enter Tryz.func134, Tryz.ntmps134
  go_wp2_with go_in
  go_ret
  refine ⟨.mk (w.heap.size + 1 + 1 + 1) 0 1 1, rfl, ?_, grI⟩
  have h1 := own_one (((w.alloc (.cells (stA V S.num) 29)).alloc (.cells #[.int .i64 p] 3)).alloc (.cells (stA V S.num) 29)) 122 6 [2, (d : Int), 17, was, bits BinOp.or .i64 was (bits BinOp.and .i64 p 3), 0] rfl
  simp only [alloc_size'] at h1
  exact h1.mono (by omega)
/-- What Show hands back. -/
theorem show_any (S : St) (V : SV) (w : World) (R : RepSt w V S) (id p : Int) : Calls Tryz.prog 134 #[.agg (stA V S.num), .int .i64 id, .int .i64 p] w fun e w' => ∃ s' : Sl, e = .returned s'.val ∧ Own w' s' 122 6 w.heap.size (flat (showEv S id p)) ∧ Grow w w' := by
  have hnil : ∀ w' : World, Own w' .nil 122 6 w.heap.size (flat []) := fun w' => ⟨⟨by simp [Sl.n, flat], Nat.le_refl _, fun j u hu => by simp [flat] at hu⟩, Nat.zero_le _, rfl, fun b h => h.elim⟩
  unfold showEv
  by_cases h : id < 0 ∨ (S.objs.length : Int) ≤ id
  · rw [if_pos h]
    refine (show_none S V w R id p h).mono ?_
    rintro e w' ⟨he, hg⟩
    exact ⟨.nil, he, hnil w', hg⟩
  · rw [if_neg h]
    obtain ⟨d, rfl⟩ := Int.eq_ofNat_of_zero_le (show 0 ≤ id by omega)
    rw [Int.toNat_natCast]
    by_cases hs : showN (gt (rowAt S.objs d) 17) p = gt (rowAt S.objs d) 17
    · rw [if_pos hs]
      refine (show_same S V w R d p (by omega) hs).mono ?_
      rintro e w' ⟨he, hg⟩
      exact ⟨.nil, he, hnil w', hg⟩
    · rw [if_neg hs]
      exact show_event S V w R d p (by omega) hs
end Go.Proofs.YtgobdndjemicjaaGreatDoor
namespace Go.Proofs.YtgobdndjemicjaaGreatDoor
open Go Go.RowKit

theorem wid_of {l : List (List Int)} {k : Nat} (h : ∀ r ∈ l, r.length = k) : ∀ i, i < l.length → (rowAt l i).length = k := fun i hi => h _ (rowAt_in l i hi)
theorem showEv_wid (S : St) (id p : Int) : ∀ r ∈ showEv S id p, r.length = 6 := by
  unfold showEv
  intro r hr
  split at hr
  · cases hr
  split at hr
  · cases hr
  · rw [List.mem_singleton] at hr; subst hr; rfl
end Go.Proofs.YtgobdndjemicjaaGreatDoor
namespace Go.Proofs.YtgobdndjemicjaaGreatDoor
open Go Go.RowKit

theorem len_erase (l : List Int) (c : Nat) (h : c < l.length) : (l.eraseIdx c).length = l.length - 1 := List.length_eraseIdx_of_lt h
theorem set_rowAt (l : List (List Int)) (a : Nat) : l.set a (rowAt l a) = l := by
  by_cases h : a < l.length
  · have : rowAt l a = l[a] := by simp [rowAt, h]
    rw [this]; exact List.set_getElem_self h
  · exact List.set_eq_of_length_le (by omega)
theorem set_gt (l : List Int) (i : Nat) : l.set i (gt l i) = l := by
  by_cases h : i < l.length
  · rw [gt_eq l i h]; exact List.set_getElem_self h
  · exact List.set_eq_of_length_le (by omega)
theorem check_move (a b c d e : Nat) (hb : b < 11) (hd : d < 11) : evCheck [1, (a : Int), b, c, d, e] = 0 := by
  unfold evCheck evSpare evRanges evMakes inR
  simp only [gt, List.getD_cons_zero, List.getD_cons_succ]
  simp
  omega
theorem doEv_move (S : St) (a b c d e : Nat) (hb : b < 11) (hd : d < 11) : doEv S [1, (a : Int), b, c, d, e] = moveS S a b c d e := by
  unfold doEv
  rw [check_move a b c d e hb hd]
  simp [gt]
theorem moveS_ok (S : St) (a b c d e : Nat) (hA : a < S.objs.length) (hc : c < (S.list b).length) (ha : gt (S.list b) c = a) (he : e ≤ (moveTo S b c d).length) : moveS S a b c d e = .ok (movedS S a b c d e) := by
  unfold moveS
  rw [if_neg (by omega), if_neg (fun h => h ⟨hc, ha⟩), if_neg (by omega)]
/-! ### Who knows a card -/
theorem formed_17 (o : List Int) (h : o.length = 18) (v : Int) : formedB (o.set 17 v) = formedB o := by
  unfold formedB
  have hg : ∀ i, i ≠ 17 → gt (o.set 17 v) i = gt o i := fun i hi => by rw [gt_set _ _ _ _ (by omega), if_neg (Ne.symm hi)]
  have hr : (restingL.any fun f => gt (o.set 17 v) f.val != 0) = restingL.any fun f => gt o f.val != 0 := by
    simp only [restingL, List.any_cons, List.any_nil]
    rw [hg ((4 : Fin 18).val) (by decide), hg ((5 : Fin 18).val) (by decide), hg ((6 : Fin 18).val) (by decide), hg ((7 : Fin 18).val) (by decide), hg ((8 : Fin 18).val) (by decide), hg ((9 : Fin 18).val) (by decide), hg ((10 : Fin 18).val) (by decide), hg ((11 : Fin 18).val) (by decide), hg ((12 : Fin 18).val) (by decide)]
  rw [hr, hg 3 (by decide), hg 2 (by decide), hg 1 (by decide), hg 16 (by decide)]
theorem stands_17 (o : List Int) (h : o.length = 18) (v z : Int) : standsB (o.set 17 v) z = standsB o z := by
  unfold standsB
  rw [gt_set _ _ _ _ (by omega), gt_set _ _ _ _ (by omega)]; rfl
theorem setObj_len (S : St) (a f : Nat) (v : Int) : (S.setObj a f v).objs.length = S.objs.length := by simp [St.setObj]
theorem setObj_row (S : St) (a f i : Nat) (v : Int) (ha : a < S.objs.length) : rowAt (S.setObj a f v).objs i = if a = i then (rowAt S.objs a).set f v else rowAt S.objs i := rowAt_set _ _ _ _ ha
theorem Right.knows {S : St} (h : Right S) (hw : ∀ i, i < S.objs.length → (rowAt S.objs i).length = 18) (a : Nat) (ha : a < S.objs.length) (v : Int) (h0 : 0 ≤ v) (h1 : v ≤ 3) : Right (S.setObj a 17 v) := by
  have hl := setObj_len S a 17 v
  have hr := fun i => setObj_row S a 17 i v ha
  have g3 : ∀ i, gt (rowAt (S.setObj a 17 v).objs i) 3 = gt (rowAt S.objs i) 3 := fun i => by
    rw [hr]; split
    · rename_i e; subst e; rw [gt_set _ _ _ _ (by rw [hw a ha]; omega)]; rfl
    · rfl
  have gs : ∀ i z, standsB (rowAt (S.setObj a 17 v).objs i) z = standsB (rowAt S.objs i) z := fun i z => by
    rw [hr]; split
    · rename_i e; subst e; exact stands_17 _ (hw a ha) _ _
    · rfl
  refine ⟨by rw [hl]; exact h.many, ranges_setObj h.ranges hw _ a 17 v ha (by omega) rfl rfl ?_, ⟨fun z hz x hx => ?_, fun id hid => ?_⟩, fun i hi => ?_⟩
  · have : inB v 0 3 = true := by simp [inB]; omega
    exact this
  · obtain ⟨p, q, r, s⟩ := h.zon.ok z hz x hx
    exact ⟨p, by rw [hl]; exact q, by rw [g3]; exact r, by rw [gs]; exact s⟩
  · exact h.zon.once id (by rw [hl] at hid; exact hid)
  · rw [hr]; split
    · rename_i e; subst e; rw [formed_17 _ (hw a ha)]; exact h.formed a ha
    · exact h.formed i (by rw [hl] at hi; exact hi)
theorem Right.knowsIn {S : St} (h : Right S) (a : Nat) (ha : a < S.objs.length) : 0 ≤ gt (rowAt S.objs a) 17 ∧ gt (rowAt S.objs a) 17 ≤ 3 := by
  have h1 := ((rangesB_iff S).1 h.ranges).1 a ha
  unfold okTo at h1
  rw [List.all_eq_true] at h1
  have h2 := h1 17 (by simp)
  have h3 : inB (gt (rowAt S.objs a) 17) 0 3 = true := h2
  simpa [inB] using h3
/-! ### Moving between library and hand -/
theorem setObj_wid {S : St} (hw : ∀ i, i < S.objs.length → (rowAt S.objs i).length = 18) (a f : Nat) (v : Int) (ha : a < S.objs.length) : ∀ i, i < (S.setObj a f v).objs.length → (rowAt (S.setObj a f v).objs i).length = 18 := by
  intro i hi
  rw [setObj_len] at hi
  rw [setObj_row _ _ _ _ _ ha]
  split
  · rw [List.length_set]; exact hw a ha
  · exact hw i hi
end Go.Proofs.YtgobdndjemicjaaGreatDoor
