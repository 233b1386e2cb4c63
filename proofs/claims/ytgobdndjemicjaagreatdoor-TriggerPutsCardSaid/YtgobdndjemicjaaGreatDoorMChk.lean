/- The rounds of what follows of itself, as plain functions; rounds of a right state. -/
import Derived.Test.YtgobdndjemicjaaGreatDoorMPutN
import Derived.Test.YtgobdndjemicjaaGreatDoorMIs
import Derived.Test.YtgobdndjemicjaaGreatDoorMIs19
namespace Go.Proofs.YtgobdndjemicjaaGreatDoor
open Go Go.RowKit Go.Shelf
def zh0 (S : St) (p : Int) : Bool := (p == 0 || p == 1) && (decide (S.num (p.toNat * 9) ≤ 0) || S.num (p.toNat * 9 + 8) == 1)
def z97 (S : St) (id : Int) : Bool := zbu S id && decide (wrap64 (gt (zha S id.toNat) 1 - gt (rowAt S.objs id.toNat) 6) ≤ 0)
def dyingN (S : St) : List Int := if checkN S = 0 then (S.list 8).filter (z97 S) else []
def resultN (S : St) : Int := if zh0 S 0 = true ∧ zh0 S 1 = true then 3 else if zh0 S 0 = true then 2 else if zh0 S 1 = true then 1 else 0
def zee (S : St) : Bool := S.num 24 != 0 || (resultN S == 0 && (dyingN S).length == 0)
def Em.puts (E : Em) (l : List Int) : Em := l.foldl (fun E id => E.put id 4) E
def Em.round (E : Em) : Em := if resultN E.now ≠ 0 then E.setGame 6 (resultN E.now) else E.puts (dyingN E.now)
def zvq : Nat → Em → Int → Int → Em × Int
 | 0, E, _, n => (E, n)
 | g + 1, E, fuel, n =>
   if E.err ≠ 0 then (E, 0)
   else if zee E.now = true then (E, n)
   else if fuel ≤ n then (E.setGame 6 3, if (E.setGame 6 3).err ≠ 0 then 0 else n)
   else zvq g E.round fuel (n + 1)
theorem zoi (l : List Int) (k : Nat) (y : Int) (hy : y ∈ l) : y = gt l k ∨ y ∈ l.eraseIdx k := by
 induction l generalizing k with
 | nil => cases hy
 | cons z l ih =>
   cases k with
   | zero =>
     rcases List.mem_cons.1 hy with h | h
     · exact Or.inl h
     · exact Or.inr h
   | succ k =>
     rw [List.eraseIdx_cons_succ, zf7]
     rcases List.mem_cons.1 hy with h | h
     · exact Or.inr (by rw [h]; exact List.mem_cons_self)
     · rcases ih k h with h | h
       · exact Or.inl h
       · exact Or.inr (List.mem_cons_of_mem _ h)
structure CkE (E : Em) : Prop where
 err : E.err = 0
 right : Right E.now
 wid : ∀ i, i < E.now.objs.length → (rowAt E.now.objs i).length = 18
 evs : E.evs.length + 14 * (E.now.list 8).length + 2 ≤ 65536
 pend : E.pend.length + 2 * (E.now.list 8).length ≤ 65536
structure PutsTo (E E' : Em) (n : Nat) : Prop where
 err : E'.err = 0
 right : Right E'.now
 wid : ∀ i, i < E'.now.objs.length → (rowAt E'.now.objs i).length = 18
 many : E'.now.objs.length = E.now.objs.length
 num : E'.now.num = E.now.num
 draws : E'.draws = E.draws
 evs : E'.evs.length ≤ E.evs.length + 14 * n
 pend : E'.pend.length ≤ E.pend.length + 2 * n
 list : (E'.now.list 8).length + n = (E.now.list 8).length
theorem zks : ∀ (l : List Int) (E : Em), E.err = 0 → Right E.now → (∀ i, i < E.now.objs.length → (rowAt E.now.objs i).length = 18) → l.Nodup → (∀ x ∈ l, x ∈ E.now.list 8) → E.evs.length + 14 * l.length ≤ 65536 → PutsTo E (E.puts l) l.length
 | [], E, he, hR, hw, _, _, _ => ⟨he, hR, hw, rfl, rfl, rfl, Nat.le_refl _, Nat.le_refl _, rfl⟩
 | x :: l, E, he, hR, hw, hn, hm, hev => by
   have hx := hm x (by simp)
   obtain ⟨h0, h1, h3, _⟩ := hR.zon.ok 8 (by omega) x hx
   obtain ⟨a, rfl⟩ := Int.eq_ofNat_of_zero_le h0
   rw [Int.toNat_natCast] at h3
   simp only [List.length_cons] at hev
   obtain ⟨z, c, d, hz, hz11, hcl, hca, hd, hd11, P⟩ := zh7 he hR hw a (by omega) 4 (by decide) (by omega)
   have hz8 : z = 8 := by rw [hz] at h3; omega
   subst hz8
   have hd8 : d ≠ 8 := fun e => by subst e; exact ziu _ hd
   have hl8 : (E.put a 4).now.list 8 = (E.now.list 8).eraseIdx c := by
    rw [P.list]
    show upd (upd E.now.list 8 _) d _ 8 = _
    rw [zbc _ _ _ _ (Ne.symm hd8), zan]
   have hml : (E.put a 4).now.objs.length = E.now.objs.length := by rw [P.objs]; simp
   have hw2 : ∀ i, i < (E.put a 4).now.objs.length → (rowAt (E.put a 4).now.objs i).length = 18 := fun i hi => by
    rw [P.objs, zby _ _ _ _ (by omega)]
    split
    · have := (RowFine.mk (hR.row (i := a) (by omega)) (hw a (by omega))).put d (by omega) (by omega)
      exact this.len
    · exact hw i (by omega)
   have hnd := List.nodup_cons.1 hn
   have ih := zks l (E.put a 4) P.err P.right hw2 hnd.2 (fun y hy => by
    rw [hl8]
    rcases zoi (E.now.list 8) c y (hm y (by simp [hy])) with h | h
    · rw [hca] at h; subst h; exact absurd hy hnd.1
    · exact h) (by have := P.evs; omega)
   have hle := zhw _ _ hcl
   have hlen : (E.now.list 8).length = ((E.put a 4).now.list 8).length + 1 := by rw [hl8, hle]; omega
   show PutsTo E ((E.put a 4).puts l) (l.length + 1)
   refine ⟨ih.err, ih.right, ih.wid, ih.many.trans hml, ih.num.trans P.num, ih.draws.trans P.draws, ?_, ?_, ?_⟩
   · have h1 := ih.evs; have h2 := P.evs; omega
   · have h1 := ih.pend; have h2 := P.pend; omega
   · have := ih.list; omega
theorem zkd (S : St) : ∀ x ∈ dyingN S, x ∈ S.list 8 := fun x hx => by
 unfold dyingN at hx
 split at hx
 · exact (List.mem_filter.1 hx).1
 · cases hx
theorem zhe {S : St} (h : Right S) : (dyingN S).Nodup := by
 unfold dyingN
 split
 · exact (h.zon.nodup (z := 8) (by omega)).sublist List.filter_sublist
 · exact List.nodup_nil
theorem znv (S : St) : (dyingN S).length ≤ (S.list 8).length := by
 unfold dyingN
 split
 · exact List.length_filter_le _ _
 · exact Nat.zero_le _
theorem zlk (u v : Int) (hv : -1073741824 ≤ v ∧ v ≤ 1073741824) : evCheck [4, 0, 6, u, v, 0] = 0 := by
 unfold evCheck zbx za5 zcf inR zcg inB
 simp only [gt, List.getD_cons_zero, List.getD_cons_succ]
 simp
 omega
theorem zu9 {E : Em} (he : E.err = 0) (v : Int) (h0 : 0 ≤ v) (h3 : v ≤ 3) (hne : E.now.num 24 ≠ v) (hev : E.evs.length < 65536) : E.setGame 6 v = { E with now := E.now.setNum 24 v, evs := E.evs ++ [[4, 0, 6, E.now.num 24, v, 0]] } := by
 unfold Em.setGame
 rw [if_neg (by rw [he]; simp), if_neg (by rw [zlk 0 0 (by omega)]; simp)]
 unfold Em.set
 rw [show (18 : Nat) + (6 : Int).toNat = 24 from rfl, if_neg hne]
 have hd : zd5 E.now [4, 0, 6, E.now.num 24, v, 0] = .ok (E.now.setNum 24 v) := by
  unfold zd5
  rw [zlk _ _ (by omega)]
  have g0 : gt [4, 0, 6, E.now.num 24, v, 0] 0 = 4 := rfl
  have g2 : gt [4, 0, 6, E.now.num 24, v, 0] 2 = 6 := rfl
  have g3 : gt [4, 0, 6, E.now.num 24, v, 0] 3 = E.now.num 24 := rfl
  have g4 : gt [4, 0, 6, E.now.num 24, v, 0] 4 = v := rfl
  rw [g0, g2, g3, g4]
  simp
 unfold Em.do1
 rw [if_neg (by rw [he]; simp)]
 show (match zd5 E.now [4, 0, 6, E.now.num 24, v, 0] with | .error n => _ | .ok S => _) = _
 rw [hd]
 show (if E.evs.length < 65536 then _ else _) = _
 rw [if_pos hev]
 rfl
theorem Right.game {S : St} (h : Right S) (v : Int) (h0 : 0 ≤ v) (h3 : v ≤ 3) : Right (S.setNum 24 v) := by
 have e1 : ∀ i, i < 24 → (S.setNum 24 v).num i = S.num i := fun i hi => zbc _ _ _ _ (by omega)
 refine ⟨h.many, (zap _).2 ⟨((zap S).1 h.ranges).1, ?_, ?_⟩, ⟨h.zon.ok, h.zon.once⟩, h.formed⟩
 · have := ((zap S).1 h.ranges).2.1
   unfold zft at *
   rw [List.all_eq_true] at *
   intro i hi
   have h4 := this i hi
   have hi2 := List.mem_range.1 hi
   have : zcw (S.setNum 24 v).num (i * 9) 9 = zcw S.num (i * 9) 9 := by
    unfold zcw
    exact List.map_congr_left (fun j hj => e1 _ (by have := List.mem_range.1 hj; omega))
   rw [this]; exact h4
 · have := ((zap S).1 h.ranges).2.2
   unfold zed at *
   rw [List.all_eq_true] at *
   intro i hi
   have hi2 := List.mem_range.1 hi
   rw [zcz _ _ _ _ hi2]
   by_cases e : i = 6
   · subst e
     show inB (upd S.num 24 v 24) 0 3 = true
     rw [zan]
     simp [inB]; omega
   · rw [e1 _ (by omega)]
     have := this i hi
     rw [zcz _ _ _ _ hi2] at this
     exact this
theorem zya (S : St) : 0 ≤ resultN S ∧ resultN S ≤ 3 := by
 unfold resultN
 (repeat' split) <;> decide
theorem zua {S : St} (h : S.num 24 ≠ 0) : zee S = true := by
 unfold zee
 simp [h]
theorem zol {S : St} (h : ¬ zee S = true) : S.num 24 = 0 ∧ (resultN S = 0 → 0 < (dyingN S).length) := by
 unfold zee at h
 simp only [Bool.or_eq_true, bne_iff_ne, Bool.and_eq_true, beq_iff_eq, not_or, not_and] at h
 refine ⟨by have := h.1; simpa using this, fun hr => ?_⟩
 have := h.2 hr
 omega
theorem CkE.round {E : Em} (h : CkE E) (hr : resultN E.now = 0) : PutsTo E E.round (dyingN E.now).length := by
 have h1 := znv E.now
 have h2 := h.evs
 have := zks (dyingN E.now) E h.err h.right h.wid (zhe h.right) (zkd _) (by omega)
 unfold Em.round
 rw [if_neg (by rw [hr]; simp)]
 exact this
theorem CkE.after {E : Em} (h : CkE E) (hr : resultN E.now = 0) : CkE E.round := by
 have P := h.round hr
 have := P.list; have := P.evs; have := P.pend; have := h.evs; have := h.pend
 exact ⟨P.err, P.right, P.wid, by omega, by omega⟩
structure RunTo (E E' : Em) : Prop where
 err : E'.err = 0
 right : Right E'.now
 wid : ∀ i, i < E'.now.objs.length → (rowAt E'.now.objs i).length = 18
 quiet : zee E'.now = true
 many : E'.now.objs.length = E.now.objs.length
 evs : E'.evs.length + 14 * (E'.now.list 8).length ≤ E.evs.length + 14 * (E.now.list 8).length + 1
 pend : E'.pend.length + 2 * (E'.now.list 8).length ≤ E.pend.length + 2 * (E.now.list 8).length
end Go.Proofs.YtgobdndjemicjaaGreatDoor
namespace Go.Proofs.YtgobdndjemicjaaGreatDoor
open Go Go.RowKit Go.Shelf
@[go_sem] theorem yg7 (V : SV) (num : Nat → Int) : sub (stA V num) 12 9 = cellsOf (zcw num 0 9) := zif V num 0 9 (by omega)
@[go_sem] theorem yg8 (V : SV) (num : Nat → Int) : sub (stA V num) 21 9 = cellsOf (zcw num 9 9) := zif V num 9 9 (by omega)
set_option maxRecDepth 100000 in
theorem ycy (S : St) (V : SV) (w : World) : Calls Tryz.prog 234 #[.agg (stA V S.num), .int .i64 0] w fun e w' => e = .returned (.bool (zh0 S 0)) ∧ Grow w w' := by
 have e0 : gt (zcw S.num 0 9) 0 = S.num 0 := zcz _ _ _ _ (by omega)
 have e8 : gt (zcw S.num 0 9) 8 = S.num 8 := zcz _ _ _ _ (by omega)
 have e : Hid (zh0 S 0 = (decide (S.num 0 ≤ 0) || S.num 8 == 1)) := rfl
 by_cases h : S.num 0 ≤ 0
 · go_enter Tryz.func234, Tryz.ntmps234
   go_wp2_with fail
   go_ret
   exact ⟨by rw [e.out]; simp [h], grI⟩
 · go_enter Tryz.func234, Tryz.ntmps234
   go_wp2_with fail
   go_ret
   exact ⟨by rw [e.out]; simp; omega, grI⟩
set_option maxRecDepth 100000 in
theorem ycz (S : St) (V : SV) (w : World) : Calls Tryz.prog 234 #[.agg (stA V S.num), .int .i64 1] w fun e w' => e = .returned (.bool (zh0 S 1)) ∧ Grow w w' := by
 have e0 : gt (zcw S.num 9 9) 0 = S.num 9 := zcz _ _ _ _ (by omega)
 have e8 : gt (zcw S.num 9 9) 8 = S.num 17 := zcz _ _ _ _ (by omega)
 have e : Hid (zh0 S 1 = (decide (S.num 9 ≤ 0) || S.num 17 == 1)) := rfl
 by_cases h : S.num 9 ≤ 0
 · go_enter Tryz.func234, Tryz.ntmps234
   go_wp2_with fail
   go_ret
   exact ⟨by rw [e.out]; simp [h], grI⟩
 · go_enter Tryz.func234, Tryz.ntmps234
   go_wp2_with fail
   go_ret
   exact ⟨by rw [e.out]; simp; omega, grI⟩
set_option maxRecDepth 100000 in
theorem z8n (S : St) (V : SV) (w : World) (p : Int) (h0 : p ≠ 0) (h1 : p ≠ 1) : Calls Tryz.prog 234 #[.agg (stA V S.num), .int .i64 p] w fun e w' => e = .returned (.bool (zh0 S p)) ∧ Grow w w' := by
 have e : Hid (zh0 S p = false) := by unfold Hid zh0; simp [h0, h1]
 have b0 : (p != 0) = true := by simpa using h0
 have b1 : (p != 1) = true := by simpa using h1
 go_enter Tryz.func234, Tryz.ntmps234
 go_wp2_with fail
 go_ret
 exact ⟨by rw [e.out]; rfl, grI⟩
theorem z3i (S : St) (V : SV) (w : World) (p : Int) : Calls Tryz.prog 234 #[.agg (stA V S.num), .int .i64 p] w fun e w' => e = .returned (.bool (zh0 S p)) ∧ Grow w w' := by
 by_cases h0 : p = 0
 · subst h0; exact ycy S V w
 · by_cases h1 : p = 1
   · subst h1; exact ycz S V w
   · exact z8n S V w p h0 h1
set_option maxRecDepth 100000 in
set_option maxHeartbeats 2000000 in
theorem zly (S : St) (V : SV) (w : World) : Calls Tryz.prog 185 #[.agg (stA V S.num)] w fun e w' => e = .returned (.int .i64 (resultN S)) ∧ Grow w w' := by
 have H := Lib.hid (fun p W => z3i S V W p)
 unfold resultN
 cases ha : zh0 S 0 <;> cases hb : zh0 S 1
 all_goals
  go_enter Tryz.func185, Tryz.ntmps185
  go_wp2_with fail
  refine zaf (by kernel_rfl) (by kernel_rfl) ?_; (repeat (go_big_quiet_step ( (go_at_call 234; first | refine Calls.grow2 (H.out _ _) | refine Calls.grow (H.out _ _)) ))); refine wpQuiet_nil ?_; rintro _ ⟨nx, rfl⟩
  go_wp2_with fail
  go_ret
  exact ⟨rfl, grI⟩
theorem z15 (S : St) (V : SV) (w : World) (R : RepSt w V S) (hS : Small S) : Calls Tryz.prog 80 #[.agg (stA V S.num)] w fun e w' => e = .returned (.int .i64 (S.objs.length + 1)) ∧ Grow w w' := by
 have hN := R.objs.len
 have hS := hS.objs
 clear R
 go_enter Tryz.func80, Tryz.ntmps80
 go_wp2_with fail
 go_ret
 exact ⟨by go_num, grI⟩
def zti (S : St) (k : Nat) : List Int := ((S.list 8).take k).filter (z97 S)
theorem zwy (S : St) (k : Nat) (h : k < (S.list 8).length) : zti S (k + 1) = zti S k ++ (if z97 S (gt (S.list 8) k) = true then [gt (S.list 8) k] else []) := by
 unfold zti
 have : (S.list 8).take (k + 1) = (S.list 8).take k ++ [gt (S.list 8) k] := by
  rw [List.take_succ_eq_append_getElem h]
  simp [gt, h]
 rw [this, List.filter_append]
 congr 1
 by_cases e : z97 S (gt (S.list 8) k) = true
 · rw [if_pos e, List.filter_cons_of_pos e]; rfl
 · rw [if_neg e, List.filter_cons_of_neg e]; rfl
set_option maxRecDepth 100000 in
set_option maxHeartbeats 2000000 in
theorem znu (S : St) (V : SV) (w : World) (h : RS S V w) : Calls Tryz.prog 186 #[.agg (stA V S.num)] w fun e w' => ∃ s : Sl, e = .returned s.val ∧ Ints w' s (dyingN S) ∧ (∀ b, s.owns b → w.heap.size ≤ b ∧ b < w'.heap.size) ∧ Grow w w' := by
 have hdy : dyingN S = zti S (S.list 8).length := by unfold dyingN zti; rw [if_pos ((zdy S).2 h.right), List.take_length]
 have H := Lib.hid h
 have hL := h.rep.list 8 (by omega)
 have hln := hL.len
 have hsm : (S.list 8).length ≤ 1048576 := h.small.list 8 (by omega)
 have HL := Lib.hid hL
 rw [hdy]
 clear h hdy hL
 go_enter Tryz.func186, Tryz.ntmps186
 go_wp2_with fail
 go_loopw [3, 12] (fun v i wr => ∃ (k : Nat) (s : Sl), k ≤ (S.list 8).length ∧ i = .int .i64 k ∧ v = s.val ∧ Made (w.alloc (.cells (stA V S.num) 29)).heap.size wr s 1 ((zti S k).map I) ∧ s.n ≤ k ∧ Grow (w.alloc (.cells (stA V S.num) 29)) wr) (fun _ i _ => (S.list 8).length - (intOf i).toNat)
 case atStart => exact ⟨0, .nil, by omega, rfl, rfl, Made.nil _ _ _, by simp [Sl.n], grI⟩
 case round =>
  obtain ⟨k, s, hk, rfl, rfl, hM, hsn, hG⟩ := hrel
  obtain ⟨x, rfl⟩ := hG
  have HM := Lib.hid hM
  clear hM
  by_cases hlt : k < (S.list 8).length
  · obtain ⟨q1, q2⟩ := (HL.out.grow (w' := (w.alloc (.cells (stA V S.num) 29)).plus x) grI).at k hlt
    have HS := Lib.hid (zwy S k hlt)
    generalize gt (S.list 8) k = id at *
    have HLe := Lib.hid (fun W (g : Grow w W) => zzd S V W (H.out.grow g) id)
    have hE : ∃ (nv : Int) (er : Int), zqb S id = .tuple #[.int .i64 nv, errV er] ∧ (z97 S id = (decide (er = 0) && decide (nv ≤ 0))) := by
     unfold zqb z97
     cases hc : zbu S id with
     | true => exact ⟨_, 0, rfl, by simp⟩
     | false => exact ⟨0, 4, rfl, by simp⟩
    obtain ⟨nv, er, hE1, hE2⟩ := hE
    rw [hE1] at HLe
    rw [hE2] at HS
    clear hE1 hE2
    by_cases he : er = 0
    · subst he
      rw [zbf] at HLe
      by_cases hn : nv ≤ 0
      · have HS2 : Hid (zti S (k + 1) = zti S k ++ [id]) := by rw [Hid, HS.out]; simp [hn]
        clear HS
        go_wp2_with (first | (go_at_call 235; refine (HLe.out _ grI).mono ?_; rintro e' w' ⟨rfl, nx, rfl⟩) | (at_builtin; refine zb1 rfl _ _ 23 rfl 3 Tryz.t3 (.int .i64 0) 1 8 Tryz.underlying23 (by kernel_rfl) (by kernel_rfl) (by kernel_rfl) (by kernel_rfl) (by omega) rfl (w.alloc (.cells (stA V S.num) 29)) s (.mk _ 0 1 1) ((zti S k).map I) [I id] rfl rfl (HM.out.grow grI) grI (zfi _ _ _ (by go_simp)) (zbn _) (zbn [id]) (by simp only [Sl.n] at hsn ⊢; omega) ?_; intro s2 y c1 _ c3 _; have C := Lib.hid (And.intro c1 c3); clear c1 c3))
        go_roundw
        case rel => exact ⟨k + 1, s2, by omega, by go_num, rfl, by rw [HS2.out, List.map_append]; exact C.out.1.grow grI, by rw [C.out.2]; simp only [Sl.n] at hsn ⊢; omega, grI⟩
        case measure => simp [intOf]; omega
      · have HS2 : Hid (zti S (k + 1) = zti S k) := by rw [Hid, HS.out]; simp [hn]
        clear HS
        go_wp2_with (go_at_call 235; refine (HLe.out _ grI).mono ?_; rintro e' w' ⟨rfl, nx, rfl⟩)
        go_roundw
        case rel => exact ⟨k + 1, s, by omega, by go_num, rfl, by rw [HS2.out]; exact HM.out.grow grI, by omega, grI⟩
        case measure => simp [intOf]; omega
    · have HS2 : Hid (zti S (k + 1) = zti S k) := by rw [Hid, HS.out]; simp [he]
      rw [zat he] at HLe
      clear HS he
      go_wp2_with (go_at_call 235; refine (HLe.out _ grI).mono ?_; rintro e' w' ⟨rfl, nx, rfl⟩)
      go_roundw
      case rel => exact ⟨k + 1, s, by omega, by go_num, rfl, by rw [HS2.out]; exact HM.out.grow grI, by omega, grI⟩
      case measure => simp [intOf]; omega
  · go_wp2_with fail
    go_ret
    have hkl : k = (S.list 8).length := by omega
    have hM := HM.out.grow (w' := (w.alloc (.cells (stA V S.num) 29)).plus x) grI
    rw [hkl] at hM
    exact ⟨s, rfl, hM.cells.ints, fun b hb => ⟨Nat.le_trans (by rw [zaa]; omega) (hM.own b hb).1, (hM.own b hb).2⟩, grI⟩
end Go.Proofs.YtgobdndjemicjaaGreatDoor
namespace Go.Proofs.YtgobdndjemicjaaGreatDoor
open Go Go.RowKit Go.Shelf
set_option maxRecDepth 100000 in
set_option maxHeartbeats 2000000 in
theorem zx6 (S : St) (V : SV) (w : World) (h : RS S V w) : Calls Tryz.prog 135 #[.agg (stA V S.num)] w fun e w' => e = .returned (.bool (zee S)) ∧ Grow w w' := by
 have HRe := Lib.hid (fun W => zly S V W)
 have HDy := Lib.hid (fun W (g : Grow w W) => znu S V W (h.grow g))
 have hq : zee S = (S.num 24 != 0 || (resultN S == 0 && (dyingN S).length == 0)) := rfl
 rw [hq]
 generalize resultN S = r at *
 generalize dyingN S = d at *
 have HQ := Lib.hid hq
 clear h hq
 by_cases h24 : S.num 24 = 0
 · by_cases hr : r = 0
   · subst hr
     go_enter Tryz.func135, Tryz.ntmps135
     go_wp2_with (first | (go_at_call 185; refine (HRe.out _).mono ?_; rintro e' w' ⟨rfl, nx, rfl⟩) | (go_at_call 186; refine (HDy.out _ grI).mono ?_; rintro e' w' ⟨s, rfl, hI, _, nx, rfl⟩; have hln := hI.len; clear hI))
     go_ret
     exact ⟨zam (by rw [h24]; cases d <;> simp <;> omega), grI⟩
   · go_enter Tryz.func135, Tryz.ntmps135
     go_wp2_with (go_at_call 185; refine (HRe.out _).mono ?_; rintro e' w' ⟨rfl, nx, rfl⟩)
     go_ret
     exact ⟨zam (by rw [h24]; simp [hr]), grI⟩
 · go_enter Tryz.func135, Tryz.ntmps135
   go_wp2_with fail
   go_ret
   exact ⟨zam (by simp [h24]), grI⟩
end Go.Proofs.YtgobdndjemicjaaGreatDoor
