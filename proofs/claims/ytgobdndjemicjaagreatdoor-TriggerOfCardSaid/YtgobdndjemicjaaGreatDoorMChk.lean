/-
  The rounds of what follows of itself, as plain functions; rounds of a right state.
  The walks of check's plain functions: who has lost, what is dying.
  The walks of check's quiet and Settled; the walks of mulligannum's Ints and States at what is the same.
-/
import Derived.Test.YtgobdndjemicjaaGreatDoorMPutN
import Derived.Test.YtgobdndjemicjaaGreatDoorMIs
import Derived.Test.YtgobdndjemicjaaGreatDoorMIs19
namespace Go.Proofs.YtgobdndjemicjaaGreatDoor
open Go Go.RowKit Go.Shelf

def lostB (S : St) (p : Int) : Bool := (p == 0 || p == 1) && (decide (S.num (p.toNat * 9) ≤ 0) || S.num (p.toNat * 9 + 8) == 1)
def dieB (S : St) (id : Int) : Bool := creatureB S id && decide (wrap64 (gt (shapeN S id.toNat) 1 - gt (rowAt S.objs id.toNat) 6) ≤ 0)
def dyingN (S : St) : List Int := if checkN S = 0 then (S.list 8).filter (dieB S) else []
def resultN (S : St) : Int := if lostB S 0 = true ∧ lostB S 1 = true then 3 else if lostB S 0 = true then 2 else if lostB S 1 = true then 1 else 0
def quietB (S : St) : Bool := S.num 24 != 0 || (resultN S == 0 && (dyingN S).length == 0)
def Em.puts (E : Em) (l : List Int) : Em := l.foldl (fun E id => E.put id 4) E
def Em.round (E : Em) : Em := if resultN E.now ≠ 0 then E.setGame 6 (resultN E.now) else E.puts (dyingN E.now)
def runG : Nat → Em → Int → Int → Em × Int
  | 0, E, _, n => (E, n)
  | g + 1, E, fuel, n =>
    if E.err ≠ 0 then (E, 0)
    else if quietB E.now = true then (E, n)
    else if fuel ≤ n then (E.setGame 6 3, if (E.setGame 6 3).err ≠ 0 then 0 else n)
    else runG g E.round fuel (n + 1)

theorem mem_eraseIdx (l : List Int) (k : Nat) (y : Int) (hy : y ∈ l) : y = gt l k ∨ y ∈ l.eraseIdx k := by
  induction l generalizing k with
  | nil => cases hy
  | cons z l ih =>
    cases k with
    | zero =>
      rcases List.mem_cons.1 hy with h | h
      · exact Or.inl h
      · exact Or.inr h
    | succ k =>
      rw [List.eraseIdx_cons_succ, gt_cons_succ]
      rcases List.mem_cons.1 hy with h | h
      · exact Or.inr (by rw [h]; exact List.mem_cons_self)
      · rcases ih k h with h | h
        · exact Or.inl h
        · exact Or.inr (List.mem_cons_of_mem _ h)
/-- What rounds keep. -/
structure CkE (E : Em) : Prop where
  err : E.err = 0
  right : Right E.now
  wid : ∀ i, i < E.now.objs.length → (rowAt E.now.objs i).length = 18
  evs : E.evs.length + 14 * (E.now.list 8).length + 2 ≤ 65536
  pend : E.pend.length + 2 * (E.now.list 8).length ≤ 65536
/-- What is behind Puts of what stands on the field. -/
structure PutsTo (E E' : Em) (n : Nat) : Prop where
  err : E'.err = 0
  right : Right E'.now
  wid : ∀ i, i < E'.now.objs.length → (rowAt E'.now.objs i).length = 18
  many : E'.now.objs.length = E.now.objs.length
  num : E'.now.num = E.now.num
  draws : E'.draws = E.draws
  evs : E'.evs.length ≤ E.evs.length + 14 * n
  pend : E'.pend.length ≤ E.pend.length + 2 * n
  list : (E'.now.list 8).length + n = (E.now.list 8).length
theorem puts_good : ∀ (l : List Int) (E : Em), E.err = 0 → Right E.now → (∀ i, i < E.now.objs.length → (rowAt E.now.objs i).length = 18) → l.Nodup → (∀ x ∈ l, x ∈ E.now.list 8) → E.evs.length + 14 * l.length ≤ 65536 → PutsTo E (E.puts l) l.length
  | [], E, he, hR, hw, _, _, _ => ⟨he, hR, hw, rfl, rfl, rfl, Nat.le_refl _, Nat.le_refl _, rfl⟩
  | x :: l, E, he, hR, hw, hn, hm, hev => by
    have hx := hm x (by simp)
    obtain ⟨h0, h1, h3, _⟩ := hR.zon.ok 8 (by omega) x hx
    obtain ⟨a, rfl⟩ := Int.eq_ofNat_of_zero_le h0
    rw [Int.toNat_natCast] at h3
    simp only [List.length_cons] at hev
    obtain ⟨z, c, d, hz, hz11, hcl, hca, hd, hd11, P⟩ := put_good he hR hw a (by omega) 4 (by decide) (by omega)
    have hz8 : z = 8 := by rw [hz] at h3; omega
    subst hz8
    have hd8 : d ≠ 8 := fun e => by subst e; exact home_grave _ hd
    have hl8 : (E.put a 4).now.list 8 = (E.now.list 8).eraseIdx c := by
      rw [P.list]
      show upd (upd E.now.list 8 _) d _ 8 = _
      rw [upd_ne _ _ _ _ (Ne.symm hd8), upd_same]
    have hml : (E.put a 4).now.objs.length = E.now.objs.length := by rw [P.objs]; simp
    have hw2 : ∀ i, i < (E.put a 4).now.objs.length → (rowAt (E.put a 4).now.objs i).length = 18 := fun i hi => by
      rw [P.objs, rowAt_set _ _ _ _ (by omega)]
      split
      · have := (RowFine.mk (hR.row (i := a) (by omega)) (hw a (by omega))).put d (by omega) (by omega)
        exact this.len
      · exact hw i (by omega)
    have hnd := List.nodup_cons.1 hn
    have ih := puts_good l (E.put a 4) P.err P.right hw2 hnd.2 (fun y hy => by
      rw [hl8]
      rcases mem_eraseIdx (E.now.list 8) c y (hm y (by simp [hy])) with h | h
      · rw [hca] at h; subst h; exact absurd hy hnd.1
      · exact h) (by have := P.evs; omega)
    have hle := len_erase _ _ hcl
    have hlen : (E.now.list 8).length = ((E.put a 4).now.list 8).length + 1 := by rw [hl8, hle]; omega
    show PutsTo E ((E.put a 4).puts l) (l.length + 1)
    refine ⟨ih.err, ih.right, ih.wid, ih.many.trans hml, ih.num.trans P.num, ih.draws.trans P.draws, ?_, ?_, ?_⟩
    · have h1 := ih.evs; have h2 := P.evs; omega
    · have h1 := ih.pend; have h2 := P.pend; omega
    · have := ih.list; omega
theorem dying_sub (S : St) : ∀ x ∈ dyingN S, x ∈ S.list 8 := fun x hx => by
  unfold dyingN at hx
  split at hx
  · exact (List.mem_filter.1 hx).1
  · cases hx
theorem dying_nodup {S : St} (h : Right S) : (dyingN S).Nodup := by
  unfold dyingN
  split
  · exact (h.zon.nodup (z := 8) (by omega)).sublist List.filter_sublist
  · exact List.nodup_nil
theorem dying_len (S : St) : (dyingN S).length ≤ (S.list 8).length := by
  unfold dyingN
  split
  · exact List.length_filter_le _ _
  · exact Nat.zero_le _
theorem check_game (u v : Int) (hv : -1073741824 ≤ v ∧ v ≤ 1073741824) : evCheck [4, 0, 6, u, v, 0] = 0 := by
  unfold evCheck evSpare evRanges evMakes inR evSmall inB
  simp only [gt, List.getD_cons_zero, List.getD_cons_succ]
  simp
  omega
/-- Behind setting how the game has ended. -/
theorem setGame_is {E : Em} (he : E.err = 0) (v : Int) (h0 : 0 ≤ v) (h3 : v ≤ 3) (hne : E.now.num 24 ≠ v) (hev : E.evs.length < 65536) : E.setGame 6 v = { E with now := E.now.setNum 24 v, evs := E.evs ++ [[4, 0, 6, E.now.num 24, v, 0]] } := by
  unfold Em.setGame
  rw [if_neg (by rw [he]; simp), if_neg (by rw [check_game 0 0 (by omega)]; simp)]
  unfold Em.set
  rw [show (18 : Nat) + (6 : Int).toNat = 24 from rfl, if_neg hne]
  have hd : doEv E.now [4, 0, 6, E.now.num 24, v, 0] = .ok (E.now.setNum 24 v) := by
    unfold doEv
    rw [check_game _ _ (by omega)]
    have g0 : gt [4, 0, 6, E.now.num 24, v, 0] 0 = 4 := rfl
    have g2 : gt [4, 0, 6, E.now.num 24, v, 0] 2 = 6 := rfl
    have g3 : gt [4, 0, 6, E.now.num 24, v, 0] 3 = E.now.num 24 := rfl
    have g4 : gt [4, 0, 6, E.now.num 24, v, 0] 4 = v := rfl
    rw [g0, g2, g3, g4]
    simp
  unfold Em.do1
  rw [if_neg (by rw [he]; simp)]
  show (match doEv E.now [4, 0, 6, E.now.num 24, v, 0] with | .error n => _ | .ok S => _) = _
  rw [hd]
  show (if E.evs.length < 65536 then _ else _) = _
  rw [if_pos hev]
  rfl
theorem Right.game {S : St} (h : Right S) (v : Int) (h0 : 0 ≤ v) (h3 : v ≤ 3) : Right (S.setNum 24 v) := by
  have e1 : ∀ i, i < 24 → (S.setNum 24 v).num i = S.num i := fun i hi => upd_ne _ _ _ _ (by omega)
  refine ⟨h.many, (rangesB_iff _).2 ⟨((rangesB_iff S).1 h.ranges).1, ?_, ?_⟩, ⟨h.zon.ok, h.zon.once⟩, h.formed⟩
  · have := ((rangesB_iff S).1 h.ranges).2.1
    unfold plsOK at *
    rw [List.all_eq_true] at *
    intro i hi
    have h4 := this i hi
    have hi2 := List.mem_range.1 hi
    have : numsL (S.setNum 24 v).num (i * 9) 9 = numsL S.num (i * 9) 9 := by
      unfold numsL
      exact List.map_congr_left (fun j hj => e1 _ (by have := List.mem_range.1 hj; omega))
    rw [this]; exact h4
  · have := ((rangesB_iff S).1 h.ranges).2.2
    unfold okTo at *
    rw [List.all_eq_true] at *
    intro i hi
    have hi2 := List.mem_range.1 hi
    rw [numsL_at _ _ _ _ hi2]
    by_cases e : i = 6
    · subst e
      show inB (upd S.num 24 v 24) 0 3 = true
      rw [upd_same]
      simp [inB]; omega
    · rw [e1 _ (by omega)]
      have := this i hi
      rw [numsL_at _ _ _ _ hi2] at this
      exact this
theorem result_in (S : St) : 0 ≤ resultN S ∧ resultN S ≤ 3 := by
  unfold resultN
  (repeat' split) <;> decide
theorem quiet_game {S : St} (h : S.num 24 ≠ 0) : quietB S = true := by
  unfold quietB
  simp [h]
theorem not_quiet {S : St} (h : ¬ quietB S = true) : S.num 24 = 0 ∧ (resultN S = 0 → 0 < (dyingN S).length) := by
  unfold quietB at h
  simp only [Bool.or_eq_true, bne_iff_ne, Bool.and_eq_true, beq_iff_eq, not_or, not_and] at h
  refine ⟨by have := h.1; simpa using this, fun hr => ?_⟩
  have := h.2 hr
  omega
theorem CkE.round {E : Em} (h : CkE E) (hr : resultN E.now = 0) : PutsTo E E.round (dyingN E.now).length := by
  have h1 := dying_len E.now
  have h2 := h.evs
  have := puts_good (dyingN E.now) E h.err h.right h.wid (dying_nodup h.right) (dying_sub _) (by omega)
  unfold Em.round
  rw [if_neg (by rw [hr]; simp)]
  exact this
theorem CkE.after {E : Em} (h : CkE E) (hr : resultN E.now = 0) : CkE E.round := by
  have P := h.round hr
  have := P.list; have := P.evs; have := P.pend; have := h.evs; have := h.pend
  exact ⟨P.err, P.right, P.wid, by omega, by omega⟩
/-- What rounds leave. -/
structure RunTo (E E' : Em) : Prop where
  err : E'.err = 0
  right : Right E'.now
  wid : ∀ i, i < E'.now.objs.length → (rowAt E'.now.objs i).length = 18
  quiet : quietB E'.now = true
  many : E'.now.objs.length = E.now.objs.length
  evs : E'.evs.length + 14 * (E'.now.list 8).length ≤ E.evs.length + 14 * (E.now.list 8).length + 1
  pend : E'.pend.length + 2 * (E'.now.list 8).length ≤ E.pend.length + 2 * (E.now.list 8).length
end Go.Proofs.YtgobdndjemicjaaGreatDoor
namespace Go.Proofs.YtgobdndjemicjaaGreatDoor
open Go Go.RowKit Go.Shelf

@[go_sem] theorem stA_pl0 (V : SV) (num : Nat → Int) : sub (stA V num) 12 9 = cellsOf (numsL num 0 9) := stA_nums V num 0 9 (by omega)
@[go_sem] theorem stA_pl1 (V : SV) (num : Nat → Int) : sub (stA V num) 21 9 = cellsOf (numsL num 9 9) := stA_nums V num 9 9 (by omega)
set_option maxRecDepth 100000 in
theorem lost_0 (S : St) (V : SV) (w : World) : Calls Tryz.prog 234 #[.agg (stA V S.num), .int .i64 0] w fun e w' => e = .returned (.bool (lostB S 0)) ∧ Grow w w' := by
  have e0 : gt (numsL S.num 0 9) 0 = S.num 0 := numsL_at _ _ _ _ (by omega)
  have e8 : gt (numsL S.num 0 9) 8 = S.num 8 := numsL_at _ _ _ _ (by omega)
  have e : Hid (lostB S 0 = (decide (S.num 0 ≤ 0) || S.num 8 == 1)) := rfl
  by_cases h : S.num 0 ≤ 0
  · go_enter Tryz.func234, Tryz.ntmps234
    go_wp2_with fail
    go_ret
    exact ⟨by rw [e.out]; simp [h], grI⟩
  · go_enter Tryz.func234, Tryz.ntmps234
    go_wp2_with fail
    go_ret
    exact ⟨by rw [e.out]; simp; omega, grI⟩
set_option maxRecDepth 100000 in
theorem lost_1 (S : St) (V : SV) (w : World) : Calls Tryz.prog 234 #[.agg (stA V S.num), .int .i64 1] w fun e w' => e = .returned (.bool (lostB S 1)) ∧ Grow w w' := by
  have e0 : gt (numsL S.num 9 9) 0 = S.num 9 := numsL_at _ _ _ _ (by omega)
  have e8 : gt (numsL S.num 9 9) 8 = S.num 17 := numsL_at _ _ _ _ (by omega)
  have e : Hid (lostB S 1 = (decide (S.num 9 ≤ 0) || S.num 17 == 1)) := rfl
  by_cases h : S.num 9 ≤ 0
  · go_enter Tryz.func234, Tryz.ntmps234
    go_wp2_with fail
    go_ret
    exact ⟨by rw [e.out]; simp [h], grI⟩
  · go_enter Tryz.func234, Tryz.ntmps234
    go_wp2_with fail
    go_ret
    exact ⟨by rw [e.out]; simp; omega, grI⟩
set_option maxRecDepth 100000 in
theorem lost_no (S : St) (V : SV) (w : World) (p : Int) (h0 : p ≠ 0) (h1 : p ≠ 1) : Calls Tryz.prog 234 #[.agg (stA V S.num), .int .i64 p] w fun e w' => e = .returned (.bool (lostB S p)) ∧ Grow w w' := by
  have e : Hid (lostB S p = false) := by unfold Hid lostB; simp [h0, h1]
  have b0 : (p != 0) = true := by simpa using h0
  have b1 : (p != 1) = true := by simpa using h1
  go_enter Tryz.func234, Tryz.ntmps234
  go_wp2_with fail
  go_ret
  exact ⟨by rw [e.out]; rfl, grI⟩
theorem lost_any (S : St) (V : SV) (w : World) (p : Int) : Calls Tryz.prog 234 #[.agg (stA V S.num), .int .i64 p] w fun e w' => e = .returned (.bool (lostB S p)) ∧ Grow w w' := by
  by_cases h0 : p = 0
  · subst h0; exact lost_0 S V w
  · by_cases h1 : p = 1
    · subst h1; exact lost_1 S V w
    · exact lost_no S V w p h0 h1
set_option maxRecDepth 100000 in
set_option maxHeartbeats 2000000 in
theorem result_any (S : St) (V : SV) (w : World) : Calls Tryz.prog 185 #[.agg (stA V S.num)] w fun e w' => e = .returned (.int .i64 (resultN S)) ∧ Grow w w' := by
  have H := Lib.hid (fun p W => lost_any S V W p)
  unfold resultN
  cases ha : lostB S 0 <;> cases hb : lostB S 1
  all_goals
    go_enter Tryz.func185, Tryz.ntmps185
    go_wp2_with fail
    refine wp_region_grow (by kernel_rfl) (by kernel_rfl) ?_; (repeat (go_big_quiet_step ( (go_at_call 234; first | refine Calls.grow2 (H.out _ _) | refine Calls.grow (H.out _ _)) ))); refine wpQuiet_nil ?_; rintro _ ⟨nx, rfl⟩
    go_wp2_with fail
    go_ret
    exact ⟨rfl, grI⟩
theorem fuel_any (S : St) (V : SV) (w : World) (R : RepSt w V S) (hS : Small S) : Calls Tryz.prog 80 #[.agg (stA V S.num)] w fun e w' => e = .returned (.int .i64 (S.objs.length + 1)) ∧ Grow w w' := by
  have hN := R.objs.len
  have hS := hS.objs
  clear R
  go_enter Tryz.func80, Tryz.ntmps80
  go_wp2_with fail
  go_ret
  exact ⟨by go_num, grI⟩
/-! ### What is dying -/
def dyTo (S : St) (k : Nat) : List Int := ((S.list 8).take k).filter (dieB S)
theorem dyTo_succ (S : St) (k : Nat) (h : k < (S.list 8).length) : dyTo S (k + 1) = dyTo S k ++ (if dieB S (gt (S.list 8) k) = true then [gt (S.list 8) k] else []) := by
  unfold dyTo
  have : (S.list 8).take (k + 1) = (S.list 8).take k ++ [gt (S.list 8) k] := by
    rw [List.take_succ_eq_append_getElem h]
    simp [gt, h]
  rw [this, List.filter_append]
  congr 1
  by_cases e : dieB S (gt (S.list 8) k) = true
  · rw [if_pos e, List.filter_cons_of_pos e]; rfl
  · rw [if_neg e, List.filter_cons_of_neg e]; rfl
set_option maxRecDepth 100000 in
set_option maxHeartbeats 2000000 in
theorem dying_any (S : St) (V : SV) (w : World) (h : RS S V w) : Calls Tryz.prog 186 #[.agg (stA V S.num)] w fun e w' => ∃ s : Sl, e = .returned s.val ∧ Ints w' s (dyingN S) ∧ (∀ b, s.owns b → w.heap.size ≤ b ∧ b < w'.heap.size) ∧ Grow w w' := by
  have hdy : dyingN S = dyTo S (S.list 8).length := by unfold dyingN dyTo; rw [if_pos ((checkN_zero S).2 h.right), List.take_length]
  have H := Lib.hid h
  have hL := h.rep.list 8 (by omega)
  have hln := hL.len
  have hsm : (S.list 8).length ≤ 1048576 := h.small.list 8 (by omega)
  have HL := Lib.hid hL
  rw [hdy]
  clear h hdy hL
  go_enter Tryz.func186, Tryz.ntmps186
  go_wp2_with fail
  go_loopw [3, 12] (fun v i wr => ∃ (k : Nat) (s : Sl), k ≤ (S.list 8).length ∧ i = .int .i64 k ∧ v = s.val ∧ Made (w.alloc (.cells (stA V S.num) 29)).heap.size wr s 1 ((dyTo S k).map I) ∧ s.n ≤ k ∧ Grow (w.alloc (.cells (stA V S.num) 29)) wr) (fun _ i _ => (S.list 8).length - (intOf i).toNat)
  case atStart => exact ⟨0, .nil, by omega, rfl, rfl, Made.nil _ _ _, by simp [Sl.n], grI⟩
  case round =>
    obtain ⟨k, s, hk, rfl, rfl, hM, hsn, hG⟩ := hrel
    obtain ⟨x, rfl⟩ := hG
    have HM := Lib.hid hM
    clear hM
    by_cases hlt : k < (S.list 8).length
    · obtain ⟨q1, q2⟩ := (HL.out.grow (w' := (w.alloc (.cells (stA V S.num) 29)).plus x) grI).at k hlt
      have HS := Lib.hid (dyTo_succ S k hlt)
      generalize gt (S.list 8) k = id at *
      have HLe := Lib.hid (fun W (g : Grow w W) => sleft_any S V W (H.out.grow g) id)
      have hE : ∃ (nv : Int) (er : Int), leftV S id = .tuple #[.int .i64 nv, errV er] ∧ (dieB S id = (decide (er = 0) && decide (nv ≤ 0))) := by
        unfold leftV dieB
        cases hc : creatureB S id with
        | true => exact ⟨_, 0, rfl, by simp⟩
        | false => exact ⟨0, 4, rfl, by simp⟩
      obtain ⟨nv, er, hE1, hE2⟩ := hE
      rw [hE1] at HLe
      rw [hE2] at HS
      clear hE1 hE2
      by_cases he : er = 0
      · subst he
        rw [errV_0] at HLe
        by_cases hn : nv ≤ 0
        · have HS2 : Hid (dyTo S (k + 1) = dyTo S k ++ [id]) := by rw [Hid, HS.out]; simp [hn]
          clear HS
          go_wp2_with (first | (go_at_call 235; refine (HLe.out _ grI).mono ?_; rintro e' w' ⟨rfl, nx, rfl⟩) | (at_builtin; refine wpList_made rfl _ _ 23 rfl 3 Tryz.t3 (.int .i64 0) 1 8 Tryz.underlying23 (by kernel_rfl) (by kernel_rfl) (by kernel_rfl) (by kernel_rfl) (by omega) rfl (w.alloc (.cells (stA V S.num) 29)) s (.mk _ 0 1 1) ((dyTo S k).map I) [I id] rfl rfl (HM.out.grow grI) grI (one_int _ _ _ (by go_simp)) (flat_one _) (flat_one [id]) (by simp only [Sl.n] at hsn ⊢; omega) ?_; intro s2 y c1 _ c3 _; have C := Lib.hid (And.intro c1 c3); clear c1 c3))
          go_roundw
          case rel => exact ⟨k + 1, s2, by omega, by go_num, rfl, by rw [HS2.out, List.map_append]; exact C.out.1.grow grI, by rw [C.out.2]; simp only [Sl.n] at hsn ⊢; omega, grI⟩
          case measure => simp [intOf]; omega
        · have HS2 : Hid (dyTo S (k + 1) = dyTo S k) := by rw [Hid, HS.out]; simp [hn]
          clear HS
          go_wp2_with (go_at_call 235; refine (HLe.out _ grI).mono ?_; rintro e' w' ⟨rfl, nx, rfl⟩)
          go_roundw
          case rel => exact ⟨k + 1, s, by omega, by go_num, rfl, by rw [HS2.out]; exact HM.out.grow grI, by omega, grI⟩
          case measure => simp [intOf]; omega
      · have HS2 : Hid (dyTo S (k + 1) = dyTo S k) := by rw [Hid, HS.out]; simp [he]
        rw [errV_is he] at HLe
        clear HS he
        go_wp2_with (go_at_call 235; refine (HLe.out _ grI).mono ?_; rintro e' w' ⟨rfl, nx, rfl⟩)
        go_roundw
        case rel => exact ⟨k + 1, s, by omega, by go_num, rfl, by rw [HS2.out]; exact HM.out.grow grI, by omega, grI⟩
        case measure => simp [intOf]; omega
    · go_wp2_with fail
      go_ret
      have hkl : k = (S.list 8).length := by omega
      have hM := HM.out.grow (w' := (w.alloc (.cells (stA V S.num) 29)).plus x) grI
      rw [hkl] at hM
      exact ⟨s, rfl, hM.cells.ints, fun b hb => ⟨Nat.le_trans (by rw [alloc_size']; omega) (hM.own b hb).1, (hM.own b hb).2⟩, grI⟩
end Go.Proofs.YtgobdndjemicjaaGreatDoor
namespace Go.Proofs.YtgobdndjemicjaaGreatDoor
open Go Go.RowKit Go.Shelf

set_option maxRecDepth 100000 in
set_option maxHeartbeats 2000000 in
theorem quiet_any (S : St) (V : SV) (w : World) (h : RS S V w) : Calls Tryz.prog 135 #[.agg (stA V S.num)] w fun e w' => e = .returned (.bool (quietB S)) ∧ Grow w w' := by
  have HRe := Lib.hid (fun W => result_any S V W)
  have HDy := Lib.hid (fun W (g : Grow w W) => dying_any S V W (h.grow g))
  have hq : quietB S = (S.num 24 != 0 || (resultN S == 0 && (dyingN S).length == 0)) := rfl
  rw [hq]
  generalize resultN S = r at *
  generalize dyingN S = d at *
  have HQ := Lib.hid hq
  clear h hq
  by_cases h24 : S.num 24 = 0
  · by_cases hr : r = 0
    · subst hr
      go_enter Tryz.func135, Tryz.ntmps135
      go_wp2_with (first | (go_at_call 185; refine (HRe.out _).mono ?_; rintro e' w' ⟨rfl, nx, rfl⟩) | (go_at_call 186; refine (HDy.out _ grI).mono ?_; rintro e' w' ⟨s, rfl, hI, _, nx, rfl⟩; have hln := hI.len; clear hI))
      go_ret
      exact ⟨ret_bool (by rw [h24]; cases d <;> simp <;> omega), grI⟩
    · go_enter Tryz.func135, Tryz.ntmps135
      go_wp2_with (go_at_call 185; refine (HRe.out _).mono ?_; rintro e' w' ⟨rfl, nx, rfl⟩)
      go_ret
      exact ⟨ret_bool (by rw [h24]; simp [hr]), grI⟩
  · go_enter Tryz.func135, Tryz.ntmps135
    go_wp2_with fail
    go_ret
    exact ⟨ret_bool (by simp [h24]), grI⟩
end Go.Proofs.YtgobdndjemicjaaGreatDoor
