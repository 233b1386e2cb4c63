/-
  The walks of rand, and of judge's draws.
  The walk of rand's Pick.
  The walk of know's Show.
  The walk of judge's Events.
  Moves, in plain Lean: a move is undone by its opposite; who knows a card does not touch the zones.
-/
import Derived.Test.YtgobdndjemicjaaGreatDoorMDo
import Derived.Deep.Light
import Derived.Test.YtgobdndjemicjaaGreatDoorMEv2
namespace Go.Proofs.YtgobdndjemicjaaGreatDoor
open Go Go.RowKit

theorem randCheck_any (s : Sl) (w : World) : Calls Tryz.prog 49 #[s.val] w fun e w' => e = .returned (errV (if 4096 < s.n then 19 else 0)) ∧ w' = w := by
  by_cases h : 4096 < s.n
  · rw [if_pos h]
    go_enter Tryz.func49, Tryz.ntmps49
    go_wp2_with fail
    go_ret
    exact ⟨rfl, rfl⟩
  · rw [if_neg h]
    go_enter Tryz.func49, Tryz.ntmps49
    go_wp2_with fail
    go_ret
    exact ⟨rfl, rfl⟩
/-- The number below n that differs from a draw by a multiple of n. -/
def belowI (d n : Int) : Int := if d.tmod n < 0 then d.tmod n + n else d.tmod n
theorem below_any (d n : Int) (h0 : 0 < n) (h1 : n ≤ 9223372036854775807) (w : World) : Calls Tryz.prog 178 #[.int .i64 d, .int .i64 n] w fun e w' => e = .returned (.int .i64 (belowI d n)) ∧ w' = w := by
  have hm := Int.tmod_lt_of_pos d h0
  have hm2 : -n < d.tmod n := by
    have := Int.tmod_lt_of_pos (-d) h0
    rw [Int.neg_tmod] at this; omega
  have hn : ¬ n = 0 := by omega
  have HB : Hid (belowI d n = if d.tmod n < 0 then d.tmod n + n else d.tmod n) := rfl
  generalize hr : d.tmod n = r at *
  by_cases h : r < 0
  · go_enter Tryz.func178, Tryz.ntmps178
    go_wp2_with fail
    go_ret
    exact ⟨ret_int (by rw [HB.out, if_pos h]), rfl⟩
  · go_enter Tryz.func178, Tryz.ntmps178
    go_wp2_with fail
    go_ret
    exact ⟨ret_int (by rw [HB.out, if_neg (by omega)]), rfl⟩
theorem left_any (s : Sl) (c : Int) (hs : s.n ≤ 1048576) (hc : 0 ≤ c) (hc2 : c ≤ 1073741824) (w : World) : Calls Tryz.prog 177 #[s.val, .int .i64 c] w fun e w' => e = .returned (.int .i64 (max ((s.n : Int) - c) 0)) ∧ w' = w := by
  go_enter Tryz.func177, Tryz.ntmps177
  go_wp2_with fail
  go_ret
  exact ⟨rfl, rfl⟩
def drawsB (e : List Int) : Bool := gt e 0 == 1 && (gt e 2 == 0 || gt e 2 == 1) && gt e 4 == gt e 2 + 2
end Go.Proofs.YtgobdndjemicjaaGreatDoor
namespace Go.Proofs.YtgobdndjemicjaaGreatDoor
open Go Go.RowKit

/-- A draw below n, the cursor behind it, an error's number. -/
def pickR (l : List Int) (c n : Int) : Int × Int × Int :=
  if 4096 < l.length then (0, 0, 19) else if n < 1 ∨ c < 0 then (0, 0, 1) else if (l.length : Int) ≤ c then (0, 0, 13) else (belowI (gt l c.toNat) n, c + 1, 0)
theorem belowI_in (d n : Int) (h : 0 < n) : 0 ≤ belowI d n ∧ belowI d n < n := by
  have hm := Int.tmod_lt_of_pos d h
  have hm2 : -n < d.tmod n := by
    have := Int.tmod_lt_of_pos (-d) h
    rw [Int.neg_tmod] at this; omega
  unfold belowI
  split <;> omega
set_option maxRecDepth 100000 in
theorem pick_any (w : World) (s : Sl) (l : List Int) (c n : Int) (R : Ints w s l) (hb : l.length ≤ 1048576) (hc : c ≤ 1073741824) (hn : n ≤ 9223372036854775807) :
    Calls Tryz.prog 130 #[s.val, .int .i64 c, .int .i64 n] w fun e w' => e = .returned (.tuple #[.int .i64 (pickR l c n).1, .int .i64 (pickR l c n).2.1, errV (pickR l c n).2.2]) ∧ w' = w := by
  have hlen := R.len
  have HR := Lib.hid R
  clear R
  have HCK := Lib.hid (fun W => randCheck_any s W)
  by_cases h1 : 4096 < l.length
  · have e1 : pickR l c n = (0, 0, 19) := by unfold pickR; rw [if_pos h1]
    rw [e1]
    have hck := HCK.out
    rw [hlen, if_pos h1] at hck
    have HC2 := Lib.hid hck
    clear hck e1
    go_enter Tryz.func130, Tryz.ntmps130
    go_wp2_with (go_at_call 49; refine (HC2.out _).mono ?_; rintro e' w' ⟨rfl, hww⟩; subst w')
    go_ret3
    exact ⟨rfl, rfl⟩
  · have hck := HCK.out
    rw [hlen, if_neg h1] at hck
    have HC2 := Lib.hid hck
    clear hck
    by_cases h2 : n < 1 ∨ c < 0
    · have e1 : pickR l c n = (0, 0, 1) := by unfold pickR; rw [if_neg h1, if_pos h2]
      rw [e1]
      clear e1
      by_cases h3 : n < 1
      · go_enter Tryz.func130, Tryz.ntmps130
        go_wp2_with (go_at_call 49; refine (HC2.out _).mono ?_; rintro e' w' ⟨rfl, hww⟩; subst w')
        go_ret3
        exact ⟨rfl, rfl⟩
      · have h4 : c < 0 := by omega
        clear h2
        go_enter Tryz.func130, Tryz.ntmps130
        go_wp2_with (go_at_call 49; refine (HC2.out _).mono ?_; rintro e' w' ⟨rfl, hww⟩; subst w')
        go_ret3
        exact ⟨rfl, rfl⟩
    · have h3 : ¬ n < 1 := by omega
      have h4 : ¬ c < 0 := by omega
      by_cases h5 : (l.length : Int) ≤ c
      · have e1 : pickR l c n = (0, 0, 13) := by unfold pickR; rw [if_neg h1, if_neg h2, if_pos h5]
        rw [e1]
        clear e1 h2
        have hmx : max ((s.n : Int) - c) 0 = 0 := by omega
        have HL := Lib.hid (fun W => left_any s c (by omega) (by omega) hc W)
        rw [hmx] at HL
        clear hmx
        go_enter Tryz.func130, Tryz.ntmps130
        go_wp2_with (first | (go_at_call 49; refine (HC2.out _).mono ?_; rintro e' w' ⟨rfl, hww⟩; subst w') | (go_at_call 177; refine (HL.out _).mono ?_; rintro e' w' ⟨rfl, hww⟩; subst w'))
        go_ret3
        exact ⟨rfl, rfl⟩
      · obtain ⟨k, rfl⟩ := Int.eq_ofNat_of_zero_le (show 0 ≤ c by omega)
        have e1 : pickR l k n = (belowI (gt l k) n, (k : Int) + 1, 0) := by unfold pickR; rw [if_neg h1, if_neg h2, if_neg h5, Int.toNat_natCast]
        rw [e1]
        clear e1 h2
        obtain ⟨hbb, hcc⟩ := HR.out.at k (by omega)
        have HL := Lib.hid (fun W => left_any s k (by omega) (by omega) hc W)
        generalize hq : max ((s.n : Int) - k) 0 = q at HL
        have hq2 : (q == 0) = false := by simp; omega
        clear hq
        go_enter Tryz.func130, Tryz.ntmps130
        go_wp2_with (first | (go_at_call 49; refine (HC2.out _).mono ?_; rintro e' w' ⟨rfl, hww⟩; subst w') | (go_at_call 177; refine (HL.out _).mono ?_; rintro e' w' ⟨rfl, hww⟩; subst w') | (go_at_call 178; refine (below_any _ _ (by omega) hn _).mono ?_; rintro e' w' ⟨rfl, hww⟩; subst w'))
        go_ret3
        exact ⟨rfl, rfl⟩
end Go.Proofs.YtgobdndjemicjaaGreatDoor
namespace Go.Proofs.YtgobdndjemicjaaGreatDoor
open Go Go.RowKit

set_option maxRecDepth 100000 in
theorem show_none (S : St) (V : SV) (w : World) (R : RepSt w V S) (id p : Int) (h : id < 0 ∨ (S.objs.length : Int) ≤ id) : Calls Tryz.prog 134 #[.agg (stA V S.num), .int .i64 id, .int .i64 p] w fun e w' => e = .returned Sl.nil.val ∧ Grow w w' := by
  have hN := R.objs.len
  by_cases h0 : id < 0
  · go_enter Tryz.func134, Tryz.ntmps134
    go_wp2_with go_in
    all_goals (go_ret; exact ⟨rfl, grI⟩)
  · have h1 : (S.objs.length : Int) ≤ id := by omega
    clear h
    go_enter Tryz.func134, Tryz.ntmps134
    go_wp2_with go_in
    all_goals (go_ret; exact ⟨rfl, grI⟩)
/-- Who knows an object when it has been shown. -/
def showN (was p : Int) : Int := bits BinOp.or .i64 was (bits BinOp.and .i64 p 3)
/-- The event by which players know an object. -/
def showEv (S : St) (id : Int) (p : Int) : List (List Int) :=
  if id < 0 ∨ (S.objs.length : Int) ≤ id then []
  else if showN (gt (rowAt S.objs id.toNat) 17) p = gt (rowAt S.objs id.toNat) 17 then []
  else [[2, id, 17, gt (rowAt S.objs id.toNat) 17, showN (gt (rowAt S.objs id.toNat) 17) p, 0]]
theorem own_one (w : World) (t : TypeId) (k : Nat) (r : List Int) (hr : r.length = k) : Own (w.alloc (.cells (cellsOf r) t)) (.mk w.heap.size 0 1 1) t k w.heap.size (flat [r]) := by
  refine ⟨one_row _ _ k r hr (by rw [blk_alloc, if_pos rfl]), by simp [Sl.c, maxLen], rfl, fun b hb => ?_⟩
  have hb : b = w.heap.size := hb
  subst hb
  exact ⟨Nat.le_refl _, cellsOf r, heap_alloc_new w _, by simp [cellsOf, hr, Sl.c]⟩
set_option maxRecDepth 100000 in
set_option maxHeartbeats 1000000 in
theorem show_same (S : St) (V : SV) (w : World) (R : RepSt w V S) (d : Nat) (p : Int) (h : d < S.objs.length) (hs : showN (gt (rowAt S.objs d) 17) p = gt (rowAt S.objs d) 17) : Calls Tryz.prog 134 #[.agg (stA V S.num), .int .i64 d, .int .i64 p] w fun e w' => e = .returned Sl.nil.val ∧ Grow w w' := by
  have hN := R.objs.len
  obtain ⟨hb, hw, hsz, hsub, hcell⟩ := R.objs.at (by omega) d h
  have hc := hcell 17 (by omega)
  clear hcell
  unfold showN at hs
  generalize gt (rowAt S.objs d) 17 = was at *
  have hq : (bits BinOp.or .i64 was (bits BinOp.and .i64 p 3) == was) = true := by simpa using hs
  clear hs
  go_enter Tryz.func134, Tryz.ntmps134
  go_wp2_with go_in
  go_ret
  exact ⟨rfl, grI⟩
set_option maxRecDepth 100000 in
set_option maxHeartbeats 1000000 in
theorem show_event (S : St) (V : SV) (w : World) (R : RepSt w V S) (d : Nat) (p : Int) (h : d < S.objs.length) (hs : ¬ showN (gt (rowAt S.objs d) 17) p = gt (rowAt S.objs d) 17) : Calls Tryz.prog 134 #[.agg (stA V S.num), .int .i64 d, .int .i64 p] w fun e w' => ∃ s' : Sl, e = .returned s'.val ∧ Own w' s' 122 6 w.heap.size (flat [[2, (d : Int), 17, gt (rowAt S.objs d) 17, showN (gt (rowAt S.objs d) 17) p, 0]]) ∧ Grow w w' := by
  have hN := R.objs.len
  obtain ⟨hb, hw, hsz, hsub, hcell⟩ := R.objs.at (by omega) d h
  have hc := hcell 17 (by omega)
  clear hcell
  have HQ : ∀ x, showN x p = bits BinOp.or .i64 x (bits BinOp.and .i64 p 3) := fun x => rfl
  generalize gt (rowAt S.objs d) 17 = was at *
  rw [HQ] at hs ⊢
  have hq : (bits BinOp.or .i64 was (bits BinOp.and .i64 p 3) == was) = false := by simpa using hs
  clear hs HQ
  go_enter Tryz.func134, Tryz.ntmps134
  go_wp2_with go_in
  go_ret
  refine ⟨.mk (w.heap.size + 1 + 1 + 1) 0 1 1, rfl, ?_, grI⟩
  have h1 := own_one (((w.alloc (.cells (stA V S.num) 29)).alloc (.cells #[.int .i64 p] 3)).alloc (.cells (stA V S.num) 29)) 122 6 [2, (d : Int), 17, was, bits BinOp.or .i64 was (bits BinOp.and .i64 p 3), 0] rfl
  simp only [alloc_size'] at h1
  exact h1.mono (by omega)
/-- What Show hands back. -/
theorem show_any (S : St) (V : SV) (w : World) (R : RepSt w V S) (id p : Int) : Calls Tryz.prog 134 #[.agg (stA V S.num), .int .i64 id, .int .i64 p] w fun e w' => ∃ s' : Sl, e = .returned s'.val ∧ Own w' s' 122 6 w.heap.size (flat (showEv S id p)) ∧ Grow w w' := by
  have hnil : ∀ w' : World, Own w' .nil 122 6 w.heap.size (flat []) := fun w' => ⟨⟨by simp [Sl.n, flat], Nat.le_refl _, fun j u hu => by simp [flat] at hu⟩, Nat.zero_le _, rfl, fun b h => h.elim⟩
  unfold showEv
  by_cases h : id < 0 ∨ (S.objs.length : Int) ≤ id
  · rw [if_pos h]
    refine (show_none S V w R id p h).mono ?_
    rintro e w' ⟨he, hg⟩
    exact ⟨.nil, he, hnil w', hg⟩
  · rw [if_neg h]
    obtain ⟨d, rfl⟩ := Int.eq_ofNat_of_zero_le (show 0 ≤ id by omega)
    rw [Int.toNat_natCast]
    by_cases hs : showN (gt (rowAt S.objs d) 17) p = gt (rowAt S.objs d) 17
    · rw [if_pos hs]
      refine (show_same S V w R d p (by omega) hs).mono ?_
      rintro e w' ⟨he, hg⟩
      exact ⟨.nil, he, hnil w', hg⟩
    · rw [if_neg hs]
      exact show_event S V w R d p (by omega) hs
end Go.Proofs.YtgobdndjemicjaaGreatDoor
namespace Go.Proofs.YtgobdndjemicjaaGreatDoor
open Go Go.RowKit

theorem room_one (w : World) (b k : Nat) (r : List Int) (hr : r.length = k) (hb : w.blk b = cellsOf r) (hf : w.free b = true) : Room w (.mk b 0 1 1) k := by
  refine ⟨by simp [Sl.c, maxLen], fun j hj => ?_⟩
  simp only [Sl.b, Sl.o, Sl.c, Nat.zero_add, Nat.one_mul] at hj ⊢
  rw [blk_cell hb (by omega), frozen_of_free hf]
  exact ⟨rfl, rfl⟩
theorem flat_six (l : List (List Int)) : flat l = (l.flatten).map I := rfl
theorem showEv_len (S : St) (id p : Int) : (flat (showEv S id p)).length ≤ 6 := by
  unfold showEv
  split
  · simp [flat]
  split
  · simp [flat]
  · simp [flat]
theorem wid_of {l : List (List Int)} {k : Nat} (h : ∀ r ∈ l, r.length = k) : ∀ i, i < l.length → (rowAt l i).length = k := fun i hi => h _ (rowAt_in l i hi)
theorem showEv_wid (S : St) (id p : Int) : ∀ r ∈ showEv S id p, r.length = 6 := by
  unfold showEv
  intro r hr
  split at hr
  · cases hr
  split at hr
  · cases hr
  · rw [List.mem_singleton] at hr; subst hr; rfl
end Go.Proofs.YtgobdndjemicjaaGreatDoor
namespace Go.Proofs.YtgobdndjemicjaaGreatDoor
open Go Go.RowKit

theorem insert_erase : ∀ (l : List Int) (c : Nat), c < l.length → (l.eraseIdx c).insertIdx c (gt l c) = l
  | [], c, h => by cases h
  | y :: l, 0, _ => rfl
  | y :: l, c + 1, h => by
    rw [List.eraseIdx_cons_succ, gt_cons_succ, List.insertIdx_succ_cons, insert_erase l c (by simpa using h)]
theorem erase_insert : ∀ (l : List Int) (c : Nat) (x : Int), c ≤ l.length → (l.insertIdx c x).eraseIdx c = l
  | l, 0, x, _ => by simp
  | [], c + 1, x, h => by simp at h
  | y :: l, c + 1, x, h => by
    rw [List.insertIdx_succ_cons, List.eraseIdx_cons_succ, erase_insert l c x (by simpa using h)]
theorem gt_insert : ∀ (l : List Int) (c : Nat) (x : Int), c ≤ l.length → gt (l.insertIdx c x) c = x
  | l, 0, x, _ => by simp [gt]
  | [], c + 1, x, h => by simp at h
  | y :: l, c + 1, x, h => by
    rw [List.insertIdx_succ_cons, gt_cons_succ, gt_insert l c x (by simpa using h)]
theorem len_insert (l : List Int) (c : Nat) (x : Int) (h : c ≤ l.length) : (l.insertIdx c x).length = l.length + 1 := by
  rw [List.length_insertIdx, if_pos h]
theorem len_erase (l : List Int) (c : Nat) (h : c < l.length) : (l.eraseIdx c).length = l.length - 1 := List.length_eraseIdx_of_lt h
theorem gt_mem (l : List Int) (c : Nat) (h : c < l.length) : gt l c ∈ l := by rw [gt_eq l c h]; exact List.getElem_mem h
theorem set_rowAt (l : List (List Int)) (a : Nat) : l.set a (rowAt l a) = l := by
  by_cases h : a < l.length
  · have : rowAt l a = l[a] := by simp [rowAt, h]
    rw [this]; exact List.set_getElem_self h
  · exact List.set_eq_of_length_le (by omega)
theorem set_gt (l : List Int) (i : Nat) : l.set i (gt l i) = l := by
  by_cases h : i < l.length
  · rw [gt_eq l i h]; exact List.set_getElem_self h
  · exact List.set_eq_of_length_le (by omega)
theorem upd_upd {α : Type} (f : Nat → α) (z : Nat) (x y : α) : upd (upd f z x) z y = upd f z y := by
  funext i; unfold upd; split <;> rfl
theorem upd_self {α : Type} (f : Nat → α) (z : Nat) : upd f z (f z) = f := by
  funext i; unfold upd; split
  · rename_i h; rw [h]
  · rfl
theorem upd_comm {α : Type} (f : Nat → α) (y z : Nat) (u v : α) (h : y ≠ z) : upd (upd f y u) z v = upd (upd f z v) y u := by
  funext i; unfold upd; by_cases a : i = z <;> by_cases b : i = y <;> simp_all

/-- The lists behind a move. -/
theorem moveTo_moved (S : St) (a b c d e : Nat) (he : e ≤ (moveTo S b c d).length) : moveTo (movedS S a b c d e) d e b = (S.list b).eraseIdx c := by
  unfold moveTo
  by_cases h : b = d
  · subst h
    rw [if_pos rfl]
    show (upd (upd S.list b ((S.list b).eraseIdx c)) b ((moveTo S b c b).insertIdx e (a : Int)) b).eraseIdx e = _
    rw [upd_same, erase_insert _ _ _ he, moveTo, if_pos rfl]
  · rw [if_neg h]
    show upd (upd S.list b _) d _ b = _
    rw [upd_ne _ _ _ _ h, upd_same]
theorem moved_back (S : St) (a b c d e : Nat) (hA : a < S.objs.length) (hc : c < (S.list b).length) (ha : gt (S.list b) c = a) (he : e ≤ (moveTo S b c d).length) (h3 : gt (rowAt S.objs a) 3 = b) :
    moveS (movedS S a b c d e) a d e b c = .ok S := by
  have hl : (movedS S a b c d e).list d = (moveTo S b c d).insertIdx e (a : Int) := by show upd _ d _ d = _; rw [upd_same]
  have hm := moveTo_moved S a b c d e he
  have hol : (movedS S a b c d e).objs.length = S.objs.length := by simp [movedS]
  unfold moveS
  rw [if_neg (by omega), if_neg (by rw [hl, len_insert _ _ _ he, gt_insert _ _ _ he]; intro h; exact h ⟨by omega, rfl⟩), if_neg (by rw [hm, len_erase _ _ hc]; omega)]
  congr 1
  unfold movedS at hm ⊢
  simp only at hm ⊢
  rw [hm]
  have e1 : ((S.objs.set a ((rowAt S.objs a).set 3 (d : Int))).set a ((rowAt (S.objs.set a ((rowAt S.objs a).set 3 (d : Int))) a).set 3 (b : Int))) = S.objs := by
    rw [rowAt_set _ _ _ _ hA, if_pos rfl, List.set_set, List.set_set, ← h3, set_gt, set_rowAt]
  have e2 : upd (upd (upd (upd S.list b ((S.list b).eraseIdx c)) d ((moveTo S b c d).insertIdx e (a : Int))) d ((upd (upd S.list b ((S.list b).eraseIdx c)) d ((moveTo S b c d).insertIdx e (a : Int)) d).eraseIdx e)) b (((S.list b).eraseIdx c).insertIdx c (a : Int)) = S.list := by
    rw [upd_same, upd_upd, ← ha, insert_erase _ _ hc]
    have he' := erase_insert (moveTo S b c d) e (gt (S.list b) c) he
    rw [he']
    by_cases h : d = b
    · subst h
      rw [upd_upd, upd_upd, upd_self]
    · rw [moveTo, if_neg h]
      rw [upd_comm _ _ _ _ _ h, upd_upd]
      rw [upd_self S.list b, upd_self]
  rw [e1, e2]

theorem check_move (a b c d e : Nat) (hb : b < 11) (hd : d < 11) : evCheck [1, (a : Int), b, c, d, e] = 0 := by
  unfold evCheck evSpare evRanges evMakes inR
  simp only [gt, List.getD_cons_zero, List.getD_cons_succ]
  simp
  omega
theorem doEv_move (S : St) (a b c d e : Nat) (hb : b < 11) (hd : d < 11) : doEv S [1, (a : Int), b, c, d, e] = moveS S a b c d e := by
  unfold doEv
  rw [check_move a b c d e hb hd]
  simp [gt]
theorem moveS_ok (S : St) (a b c d e : Nat) (hA : a < S.objs.length) (hc : c < (S.list b).length) (ha : gt (S.list b) c = a) (he : e ≤ (moveTo S b c d).length) : moveS S a b c d e = .ok (movedS S a b c d e) := by
  unfold moveS
  rw [if_neg (by omega), if_neg (fun h => h ⟨hc, ha⟩), if_neg (by omega)]
theorem invert_move (a b c d e : Int) : evInvert [1, a, b, c, d, e] = [1, a, d, e, b, c] := rfl

/-! ### Who knows a card -/
theorem formed_17 (o : List Int) (h : o.length = 18) (v : Int) : formedB (o.set 17 v) = formedB o := by
  unfold formedB
  have hg : ∀ i, i ≠ 17 → gt (o.set 17 v) i = gt o i := fun i hi => by rw [gt_set _ _ _ _ (by omega), if_neg (Ne.symm hi)]
  have hr : (restingL.any fun f => gt (o.set 17 v) f.val != 0) = restingL.any fun f => gt o f.val != 0 := by
    simp only [restingL, List.any_cons, List.any_nil]
    rw [hg ((4 : Fin 18).val) (by decide), hg ((5 : Fin 18).val) (by decide), hg ((6 : Fin 18).val) (by decide), hg ((7 : Fin 18).val) (by decide), hg ((8 : Fin 18).val) (by decide), hg ((9 : Fin 18).val) (by decide), hg ((10 : Fin 18).val) (by decide), hg ((11 : Fin 18).val) (by decide), hg ((12 : Fin 18).val) (by decide)]
  rw [hr, hg 3 (by decide), hg 2 (by decide), hg 1 (by decide), hg 16 (by decide)]
theorem stands_17 (o : List Int) (h : o.length = 18) (v z : Int) : standsB (o.set 17 v) z = standsB o z := by
  unfold standsB
  rw [gt_set _ _ _ _ (by omega), gt_set _ _ _ _ (by omega)]; rfl
theorem setObj_len (S : St) (a f : Nat) (v : Int) : (S.setObj a f v).objs.length = S.objs.length := by simp [St.setObj]
theorem setObj_row (S : St) (a f i : Nat) (v : Int) (ha : a < S.objs.length) : rowAt (S.setObj a f v).objs i = if a = i then (rowAt S.objs a).set f v else rowAt S.objs i := rowAt_set _ _ _ _ ha
theorem Right.knows {S : St} (h : Right S) (hw : ∀ i, i < S.objs.length → (rowAt S.objs i).length = 18) (a : Nat) (ha : a < S.objs.length) (v : Int) (h0 : 0 ≤ v) (h1 : v ≤ 3) : Right (S.setObj a 17 v) := by
  have hl := setObj_len S a 17 v
  have hr := fun i => setObj_row S a 17 i v ha
  have g3 : ∀ i, gt (rowAt (S.setObj a 17 v).objs i) 3 = gt (rowAt S.objs i) 3 := fun i => by
    rw [hr]; split
    · rename_i e; subst e; rw [gt_set _ _ _ _ (by rw [hw a ha]; omega)]; rfl
    · rfl
  have gs : ∀ i z, standsB (rowAt (S.setObj a 17 v).objs i) z = standsB (rowAt S.objs i) z := fun i z => by
    rw [hr]; split
    · rename_i e; subst e; exact stands_17 _ (hw a ha) _ _
    · rfl
  refine ⟨by rw [hl]; exact h.many, ranges_setObj h.ranges hw _ a 17 v ha (by omega) rfl rfl ?_, ⟨fun z hz x hx => ?_, fun id hid => ?_⟩, fun i hi => ?_⟩
  · have : inB v 0 3 = true := by simp [inB]; omega
    exact this
  · obtain ⟨p, q, r, s⟩ := h.zon.ok z hz x hx
    exact ⟨p, by rw [hl]; exact q, by rw [g3]; exact r, by rw [gs]; exact s⟩
  · exact h.zon.once id (by rw [hl] at hid; exact hid)
  · rw [hr]; split
    · rename_i e; subst e; rw [formed_17 _ (hw a ha)]; exact h.formed a ha
    · exact h.formed i (by rw [hl] at hi; exact hi)
theorem Right.knowsIn {S : St} (h : Right S) (a : Nat) (ha : a < S.objs.length) : 0 ≤ gt (rowAt S.objs a) 17 ∧ gt (rowAt S.objs a) 17 ≤ 3 := by
  have h1 := ((rangesB_iff S).1 h.ranges).1 a ha
  unfold okTo at h1
  rw [List.all_eq_true] at h1
  have h2 := h1 17 (by simp)
  have h3 : inB (gt (rowAt S.objs a) 17) 0 3 = true := h2
  simpa [inB] using h3
theorem showN_in (w p : Int) (h0 : 0 ≤ w) (h1 : w ≤ 3) (hp : p = 1 ∨ p = 2) : 0 ≤ showN w p ∧ showN w p ≤ 3 := by
  have : w = 0 ∨ w = 1 ∨ w = 2 ∨ w = 3 := by omega
  rcases hp with rfl | rfl <;> rcases this with rfl | rfl | rfl | rfl <;> decide
theorem doEv_knows (S : St) (a : Nat) (v : Int) (ha : a < S.objs.length) (h0 : 0 ≤ v) (h1 : v ≤ 3) : doEv S [2, (a : Int), 17, gt (rowAt S.objs a) 17, v, 0] = .ok (S.setObj a 17 v) := by
  have hc : ∀ u, evCheck [2, (a : Int), 17, u, v, 0] = 0 := fun u => by
    unfold evCheck evSpare evRanges evMakes inR evSmall inB
    simp only [gt, List.getD_cons_zero, List.getD_cons_succ]
    simp
    omega
  unfold doEv
  rw [hc]
  have ha2 : ¬ ((S.objs.length : Int) ≤ (a : Int)) := by omega
  simp [gt, ha2]
/-! ### Moving between library and hand -/
theorem form_move (r : List Int) (hl : r.length = 18) (y z : Int) (h : formedB r = true) (hy : gt r 3 = y) (hy8 : y < 8) (hz8 : z < 8) : formedB (r.set 3 z) = true := by
  have hg : ∀ i, i ≠ 3 → gt (r.set 3 z) i = gt r i := fun i hi => by rw [gt_set _ _ _ _ (by omega), if_neg (Ne.symm hi)]
  have h3 : gt (r.set 3 z) 3 = z := by rw [gt_set _ _ _ _ (by omega), if_pos rfl]
  unfold formedB at h ⊢
  have n8 : (gt r 3 != 8) = true := by rw [hy]; simp; omega
  have m8 : (z != 8) = true := by simp; omega
  have n9 : (gt r 3 == 9) = false := by rw [hy]; simp; omega
  have m9 : (z == 9) = false := by simp; omega
  have l8 : decide (gt r 3 < 8) = true := by rw [hy]; simpa using hy8
  have k8 : decide (z < 8) = true := by simpa using hz8
  rw [n8, l8, n9] at h
  rw [h3, m8, k8, m9]
  have hr : (restingL.any fun f => gt (r.set 3 z) f.val != 0) = restingL.any fun f => gt r f.val != 0 := by
    simp only [restingL, List.any_cons, List.any_nil]
    rw [hg ((4 : Fin 18).val) (by decide), hg ((5 : Fin 18).val) (by decide), hg ((6 : Fin 18).val) (by decide), hg ((7 : Fin 18).val) (by decide), hg ((8 : Fin 18).val) (by decide), hg ((9 : Fin 18).val) (by decide), hg ((10 : Fin 18).val) (by decide), hg ((11 : Fin 18).val) (by decide), hg ((12 : Fin 18).val) (by decide)]
  rw [hr, hg 2 (by decide), hg 1 (by decide), hg 16 (by decide)]
  exact h
theorem stands_pl (o : List Int) (p y z : Nat) (hp : p < 2) (hy : y = p ∨ y = 2 + p) (hz : z = p ∨ z = 2 + p) (h : standsB o y = true) : standsB o z = true := by
  unfold standsB ownedB sidePl ownedB at h ⊢
  have : p = 0 ∨ p = 1 := by omega
  rcases this with rfl | rfl <;> rcases hy with rfl | rfl <;> rcases hz with rfl | rfl <;> simpa using h
theorem moved_wid {S : St} (hw : ∀ i, i < S.objs.length → (rowAt S.objs i).length = 18) (a b c d e : Nat) (ha : a < S.objs.length) : ∀ i, i < (movedS S a b c d e).objs.length → (rowAt (movedS S a b c d e).objs i).length = 18 := by
  intro i hi
  have hi : i < S.objs.length := by simpa [movedS] using hi
  show (rowAt (S.objs.set a _) i).length = 18
  rw [rowAt_set _ _ _ _ ha]
  split
  · rw [List.length_set]; exact hw a ha
  · exact hw i hi
theorem setObj_wid {S : St} (hw : ∀ i, i < S.objs.length → (rowAt S.objs i).length = 18) (a f : Nat) (v : Int) (ha : a < S.objs.length) : ∀ i, i < (S.setObj a f v).objs.length → (rowAt (S.setObj a f v).objs i).length = 18 := by
  intro i hi
  rw [setObj_len] at hi
  rw [setObj_row _ _ _ _ _ ha]
  split
  · rw [List.length_set]; exact hw a ha
  · exact hw i hi
end Go.Proofs.YtgobdndjemicjaaGreatDoor
