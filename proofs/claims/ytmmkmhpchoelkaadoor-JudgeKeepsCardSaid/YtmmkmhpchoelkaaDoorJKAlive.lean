/-
  A card drawn and a judge's backup, in plain Lean.
  The walk of the fixed fact of judge's laws.
-/
import Derived.Test.YtmmkmhpchoelkaaDoorJn
import Derived.Test.YtmmkmhpchoelkaaDoorPlan
namespace Go.Proofs.YtmmkmhpchoelkaaDoor
open Go Go.RowKit

theorem insert_end : ∀ (l : List Int) (x : Int), l.insertIdx l.length x = l ++ [x]
  | [], x => rfl
  | y :: l, x => by
    show (y :: l).insertIdx (l.length + 1) x = _
    rw [List.insertIdx_succ_cons, insert_end l x]; rfl
theorem Zon.last_at {S : St} (h : Zon S) {z : Nat} (hz : z < 11) (n : Nat) (hn : n < (S.list z).length) : idxL (S.list z) (gt (S.list z) n) = n := by
  have hm := gt_mem (S.list z) n hn
  obtain ⟨h0, h1, _⟩ := h.ok z hz _ hm
  have hone := h.once (gt (S.list z) n).toNat (by omega)
  rw [Int.toNat_of_nonneg h0] at hone
  have hcnt : (S.list z).count (gt (S.list z) n) ≤ 1 := by
    have : ∀ k, z < k → (S.list z).count (gt (S.list z) n) ≤ cntTo S (gt (S.list z) n) k := fun k => by
      induction k with
      | zero => intro h; omega
      | succ k ih =>
        intro hk
        rw [cntTo_succ]
        by_cases e : z = k
        · subst e; omega
        · have := ih (by omega); omega
    have := this 11 hz
    omega
  have hne : ∀ j, j < n → gt (S.list z) j ≠ gt (S.list z) n := by
    intro j hj he
    have h2 : 2 ≤ (S.list z).count (gt (S.list z) n) := by
      have e1 : (S.list z) = (S.list z).take n ++ (S.list z).drop n := (List.take_append_drop n _).symm
      have c1 : 0 < ((S.list z).take n).count (gt (S.list z) n) := List.count_pos_iff.2 (by
        rw [← he, gt_eq _ j (by omega)]
        exact List.mem_iff_getElem.2 ⟨j, by simp; omega, by simp⟩)
      have c2 : 0 < ((S.list z).drop n).count (gt (S.list z) n) := List.count_pos_iff.2 (by
        rw [gt_eq _ n hn]
        exact List.mem_iff_getElem.2 ⟨0, by simp; omega, by simp⟩)
      have : (S.list z).count (gt (S.list z) n) = ((S.list z).take n ++ (S.list z).drop n).count (gt (S.list z) n) := by rw [← e1]
      rw [List.count_append] at this
      omega
    omega
  have := Lib.idxOf_hit (S.list z) (S.list z).length n (gt (S.list z) n) hn (Nat.le_refl _) rfl (fun j hj => hne j hj)
  rw [List.take_length] at this
  exact this
/-- What stands behind a backup. -/
structure BackedUp (S T : St) (p a : Nat) (x : Int) : Prop where
  check : checkN T = 0
  many : T.objs.length = S.objs.length
  lib : (T.list p).length = (S.list p).length
  hand : (T.list (2 + p)).length = (S.list (2 + p)).length
  top : gt (T.list p) ((S.list p).length - 1) = x
  num : T.num = S.num
  had : x = a ∨ x ∈ S.list (2 + p)
  rest : ∀ y ∈ S.list (2 + p), y = x ∨ y ∈ T.list (2 + p)
  rows : ∀ i : Nat, (i : Int) ≠ a → (i : Int) ≠ x → rowAt T.objs i = rowAt S.objs i
  zone : gt (rowAt T.objs x.toNat) 3 = p
  x0 : 0 ≤ x
  x1 : x < S.objs.length
theorem mem_erase (l : List Int) (k : Nat) (y : Int) (hy : y ∈ l) : y = gt l k ∨ y ∈ l.eraseIdx k := by
  induction l generalizing k with
  | nil => cases hy
  | cons z l ih =>
    cases k with
    | zero =>
      rcases List.mem_cons.1 hy with h | h
      · exact Or.inl h
      · exact Or.inr h
    | succ k =>
      rw [List.eraseIdx_cons_succ, gt_cons_succ]
      rcases List.mem_cons.1 hy with h | h
      · exact Or.inr (by rw [h]; exact List.mem_cons_self)
      · exact (ih k h).imp (fun h => h) (fun h => List.mem_cons_of_mem _ h)
theorem jk_last (S S2 : St) (p a n k : Nat) (x : Int) (hp : p < 2) (hlib : (S.list p).length = n + 1) (hR : Right S2) (hw : ∀ i, i < S2.objs.length → (rowAt S2.objs i).length = 18) (ho : S2.objs.length = S.objs.length) (hrow : ∀ i, i ≠ a → rowAt S2.objs i = rowAt S.objs i)
    (hl : S2.list (2 + p) = S.list (2 + p) ++ [(a : Int)]) (hlp : S2.list p = (S.list p).eraseIdx n) (hnum : S2.num = S.num) (hk : k < (S.list (2 + p) ++ [(a : Int)]).length) (hx : gt (S.list (2 + p) ++ [(a : Int)]) k = x) :
    ∃ T, doEv S2 [1, x, 2 + (p : Int), (k : Int), (p : Int), (n : Int)] = .ok T ∧ BackedUp S T p a x := by
  have hnp : ¬ p = 2 + p := by omega
  have hm : x ∈ S2.list (2 + p) := by rw [hl, ← hx]; exact gt_mem _ _ hk
  obtain ⟨x0, x1, x3, x4⟩ := hR.zon.ok (2 + p) (by omega) x hm
  obtain ⟨b, rfl⟩ := Int.eq_ofNat_of_zero_le x0
  rw [Int.toNat_natCast] at x3 x4
  have hmt : moveTo S2 (2 + p) k p = S2.list p := by unfold moveTo; rw [if_neg hnp]
  have hel : ((S.list p).eraseIdx n).length = n := by rw [len_erase _ _ (by omega)]; omega
  have hE := doEv_move S2 b (2 + p) k p n (by omega) (by omega)
  rw [show ((2 + p : Nat) : Int) = 2 + (p : Int) by omega] at hE
  have hb : b < S2.objs.length := by omega
  have hk2 : k < (S2.list (2 + p)).length := by rw [hl]; exact hk
  have hg : gt (S2.list (2 + p)) k = (b : Int) := by rw [hl]; exact hx
  have hn : n ≤ (moveTo S2 (2 + p) k p).length := by rw [hmt, hlp, hel]; exact Nat.le_refl _
  rw [moveS_ok S2 b (2 + p) k p n hb hk2 hg hn] at hE
  have hT := hR.moved hw b (2 + p) k p n hb (by omega) (by omega) hk2 hg hn (stands_pl _ p (2 + p) p hp (Or.inr rfl) (Or.inl rfl) x4) (form_move _ (hw b hb) ((2 + p : Nat) : Int) _ (hR.formed b hb) x3 (by omega) (by omega))
  have tp : (movedS S2 b (2 + p) k p n).list p = ((S.list p).eraseIdx n).insertIdx n (b : Int) := by
    show upd _ p _ p = _
    rw [upd_same, hmt, hlp]
  have tq : (movedS S2 b (2 + p) k p n).list (2 + p) = (S.list (2 + p) ++ [(a : Int)]).eraseIdx k := by
    show upd (upd _ (2 + p) _) p _ (2 + p) = _
    rw [upd_ne _ _ _ _ (Ne.symm hnp), upd_same, hl]
  have tr : ∀ i, rowAt (movedS S2 b (2 + p) k p n).objs i = if b = i then (rowAt S2.objs b).set 3 (p : Int) else rowAt S2.objs i := fun i => rowAt_set _ _ _ _ hb
  refine ⟨_, hE, ⟨(checkN_zero _).2 hT, by simp [movedS, ho], ?_, ?_, ?_, hnum, ?_, fun y hy => ?_, fun i hi hj => ?_, ?_, x0, by omega⟩⟩
  · rw [tp, len_insert _ _ _ (by omega), hel, hlib]
  · rw [tq, len_erase _ _ hk, List.length_append]; rfl
  · rw [tp, hlib, Nat.add_sub_cancel]; exact gt_insert _ _ _ (by omega)
  · rw [← hx]
    rcases List.mem_append.1 (gt_mem _ _ hk) with h | h
    · exact Or.inr h
    · exact Or.inl (List.mem_singleton.1 h)
  · rw [tq]
    have := mem_erase (S.list (2 + p) ++ [(a : Int)]) k y (List.mem_append_left _ hy)
    rw [hx] at this; exact this
  · rw [tr, if_neg (by omega)]; exact hrow i (by omega)
  · rw [Int.toNat_natCast, tr, if_pos rfl, gt_set _ _ _ _ (by rw [hw b hb]; omega), if_pos rfl]
theorem jk_plain (S : St) (h : Right S) (hw : ∀ i, i < S.objs.length → (rowAt S.objs i).length = 18) (p : Nat) (hp : p < 2) (n : Nat) (hn : (S.list p).length = n + 1) (draw : Int) :
    ∃ (a : Nat) (S1 T : St) (l : List (List Int)) (x : Int), gt (S.list p) n = a ∧ a < S.objs.length ∧ runEv S 0 [[1, (a : Int), (p : Int), (n : Int), 2 + (p : Int), ((S.list (2 + p)).length : Int)]] = .ok S1 ∧ checkN S1 = 0 ∧
      runEv S1 0 (invL [[1, (a : Int), (p : Int), (n : Int), 2 + (p : Int), ((S.list (2 + p)).length : Int)]]) = .ok S ∧ drawnL [[1, (a : Int), (p : Int), (n : Int), 2 + (p : Int), ((S.list (2 + p)).length : Int)]] = [(a : Int)] ∧
      judgeEv S a draw = .ok (l, x) ∧ l.length ≤ 3 ∧ runEv S 0 l = .ok T ∧ BackedUp S T p a x := by
  have hp11 : p < 11 := by omega
  have hq11 : 2 + p < 11 := by omega
  obtain ⟨h0, h1, h3, h4⟩ := h.zon.ok p hp11 _ (gt_mem (S.list p) n (by omega))
  have hidx := h.zon.last_at hp11 n (by omega)
  obtain ⟨a, ha⟩ := Int.eq_ofNat_of_zero_le h0
  rw [ha] at h1 h3 h4 hidx
  rw [Int.toNat_natCast] at h3 h4
  have haN : a < S.objs.length := by omega
  have hnp : ¬ 2 + p = p := by omega
  have hmt : moveTo S p n (2 + p) = S.list (2 + p) := by unfold moveTo; rw [if_neg hnp]
  have hlen2 : ((2 + p : Nat) : Int) = 2 + (p : Int) := by omega
  -- the draw
  have hm1 : doEv S [1, (a : Int), (p : Int), (n : Int), 2 + (p : Int), ((S.list (2 + p)).length : Int)] = .ok (movedS S a p n (2 + p) (S.list (2 + p)).length) := by
    have e := doEv_move S a p n (2 + p) (S.list (2 + p)).length hp11 hq11
    rw [hlen2] at e
    rw [e]
    exact moveS_ok _ _ _ _ _ _ haN (by omega) ha (by rw [hmt]; exact Nat.le_refl _)
  have hR1 : Right (movedS S a p n (2 + p) (S.list (2 + p)).length) := h.moved hw a p n (2 + p) _ haN hp11 hq11 (by omega) ha (by rw [hmt]; exact Nat.le_refl _) (stands_pl _ p p (2 + p) hp (Or.inl rfl) (Or.inr rfl) h4) (form_move _ (hw a haN) p _ (h.formed a haN) h3 (by omega) (by omega))
  have hund : runEv (movedS S a p n (2 + p) (S.list (2 + p)).length) 0 (invL [[1, (a : Int), (p : Int), (n : Int), 2 + (p : Int), ((S.list (2 + p)).length : Int)]]) = .ok S := by
    have e1 : invL [[1, (a : Int), (p : Int), (n : Int), 2 + (p : Int), ((S.list (2 + p)).length : Int)]] = [[1, (a : Int), ((2 + p : Nat) : Int), ((S.list (2 + p)).length : Int), (p : Int), (n : Int)]] := by rw [hlen2]; rfl
    rw [e1, runEv, doEv_move _ _ _ _ _ _ hq11 hp11, moved_back S a p n (2 + p) _ haN (by omega) ha (by rw [hmt]; exact Nat.le_refl _) h3]
    rfl
  have hw1 := moved_wid hw a p n (2 + p) (S.list (2 + p)).length haN
  have hl1 : (movedS S a p n (2 + p) (S.list (2 + p)).length).list (2 + p) = S.list (2 + p) ++ [(a : Int)] := by
    show upd _ (2 + p) _ (2 + p) = _
    rw [upd_same, hmt, insert_end]
  have hl1p : (movedS S a p n (2 + p) (S.list (2 + p)).length).list p = (S.list p).eraseIdx n := by
    show upd (upd _ p _) (2 + p) _ p = _
    rw [upd_ne _ _ _ _ (Ne.symm hnp), upd_same]
  have hn1 : (movedS S a p n (2 + p) (S.list (2 + p)).length).num = S.num := rfl
  have ho1 : (movedS S a p n (2 + p) (S.list (2 + p)).length).objs.length = S.objs.length := by simp [movedS]
  have hr1 : ∀ i, rowAt (movedS S a p n (2 + p) (S.list (2 + p)).length).objs i = if a = i then (rowAt S.objs a).set 3 ((2 + p : Nat) : Int) else rowAt S.objs i := fun i => rowAt_set _ _ _ _ haN
  -- the backup's events
  have hkn := belowI_in draw ((S.list (2 + p)).length + 1) (by omega)
  obtain ⟨k, hk⟩ := Int.eq_ofNat_of_zero_le hkn.1
  rw [hk] at hkn
  have hk1 : k < (S.list (2 + p) ++ [(a : Int)]).length := by rw [List.length_append]; simp; omega
  obtain ⟨x, hx⟩ : ∃ x, gt (S.list (2 + p) ++ [(a : Int)]) k = x := ⟨_, rfl⟩
  have hj : judgeEv S a draw = .ok ([1, (a : Int), (p : Int), (n : Int), 2 + (p : Int), ((S.list (2 + p)).length : Int)] :: showEv S a (if (p : Int) = 0 then 1 else 2) ++ [[1, x, 2 + (p : Int), (k : Int), (p : Int), (n : Int)]], x) := by
    unfold judgeEv
    rw [if_neg (by omega)]
    simp only [Int.toNat_natCast, h3]
    rw [if_neg (by omega), hidx, if_neg (by omega), hk, Int.toNat_natCast, hx, hn]
    simp
  have hqv : (if (p : Int) = 0 then (1 : Int) else 2) = 1 ∨ (if (p : Int) = 0 then (1 : Int) else 2) = 2 := by split <;> simp
  generalize (if (p : Int) = 0 then (1 : Int) else 2) = q at *
  obtain ⟨w0, w1⟩ := h.knowsIn a haN
  have hrun1 : runEv S 0 [[1, (a : Int), (p : Int), (n : Int), 2 + (p : Int), ((S.list (2 + p)).length : Int)]] = .ok (movedS S a p n (2 + p) (S.list (2 + p)).length) := by rw [runEv, hm1]; rfl
  have hdw : drawnL [[1, (a : Int), (p : Int), (n : Int), 2 + (p : Int), ((S.list (2 + p)).length : Int)]] = [(a : Int)] := by
    have : drawsB [1, (a : Int), (p : Int), (n : Int), 2 + (p : Int), ((S.list (2 + p)).length : Int)] = true := by
      have hq : p = 0 ∨ p = 1 := by omega
      rcases hq with rfl | rfl <;> simp [drawsB, gt]
    simp [drawnL, this, gt]
  by_cases hs : showN (gt (rowAt S.objs a) 17) q = gt (rowAt S.objs a) 17
  · have he : showEv S a q = [] := by
      unfold showEv
      rw [if_neg (by omega), Int.toNat_natCast, if_pos hs]
    obtain ⟨T, hT, hB⟩ := jk_last S _ p a n k x hp hn hR1 hw1 ho1 (fun i hi => by rw [hr1, if_neg (Ne.symm hi)]) hl1 hl1p hn1 hk1 hx
    rw [he] at hj
    refine ⟨a, _, T, _, x, ha, haN, hrun1, (checkN_zero _).2 hR1, hund, hdw, hj, by simp, ?_, hB⟩
    show runEv S 0 [_, _] = _
    rw [runEv, hm1]
    show runEv _ _ [_] = _
    rw [runEv, hT]
    rfl
  · have he : showEv S a q = [[2, (a : Int), 17, gt (rowAt S.objs a) 17, showN (gt (rowAt S.objs a) 17) q, 0]] := by
      unfold showEv
      rw [if_neg (by omega), Int.toNat_natCast, if_neg hs]
    have hsn := showN_in _ q w0 w1 hqv
    have h17 : gt (rowAt (movedS S a p n (2 + p) (S.list (2 + p)).length).objs a) 17 = gt (rowAt S.objs a) 17 := by
      rw [hr1, if_pos rfl, gt_set _ _ _ _ (by rw [hw a haN]; omega), if_neg (by omega)]
    have hm2 := doEv_knows (movedS S a p n (2 + p) (S.list (2 + p)).length) a (showN (gt (rowAt S.objs a) 17) q) (by rw [ho1]; exact haN) hsn.1 hsn.2
    rw [h17] at hm2
    have hR2 := hR1.knows hw1 a (by rw [ho1]; exact haN) _ hsn.1 hsn.2
    obtain ⟨T, hT, hB⟩ := jk_last S _ p a n k x hp hn hR2 (setObj_wid hw1 a 17 _ (by rw [ho1]; exact haN)) (by rw [setObj_len, ho1]) (fun i hi => by rw [setObj_row _ _ _ _ _ (by rw [ho1]; exact haN), if_neg (Ne.symm hi), hr1, if_neg (Ne.symm hi)]) hl1 hl1p hn1 hk1 hx
    rw [he] at hj
    refine ⟨a, _, T, _, x, ha, haN, hrun1, (checkN_zero _).2 hR1, hund, hdw, hj, by simp, ?_, hB⟩
    show runEv S 0 [_, _, _] = _
    rw [runEv, hm1]
    show runEv _ _ [_, _] = _
    rw [runEv, hm2]
    show runEv _ _ [_] = _
    rw [runEv, hT]
    rfl
end Go.Proofs.YtmmkmhpchoelkaaDoor
namespace Go.Proofs.YtmmkmhpchoelkaaDoor
open Go Go.RowKit Go.Shelf

/-- The chapter's example. -/
def jaS : St := { objs := [[0, 0, 0, 2, 0, 0, 0, 0, 0, 0, 0, 0, 0, 0, 0, 0, 0, 0], [0, 0, 0, 2, 0, 0, 0, 0, 0, 0, 0, 0, 0, 0, 0, 0, 0, 0], [0, 0, 0, 0, 0, 0, 0, 0, 0, 0, 0, 0, 0, 0, 0, 0, 0, 0]], list := upd (upd (fun _ => []) 2 [0, 1]) 0 [2], num := fun _ => 0 }
theorem ja_ev : ∃ l, judgeEv jaS 2 1 = .ok (l, 1) ∧ l.length = 3 := ⟨_, rfl, rfl⟩
@[go_sem] theorem ja_build1 (w : World) : (bdRow 48 #[(3, .int .i64 2)]).run Tryd.prog w = .ok (.value (.agg (cellsOf [0, 0, 0, 2, 0, 0, 0, 0, 0, 0, 0, 0, 0, 0, 0, 0, 0, 0]))) w := by kernel_rfl
@[go_sem] theorem ja_build0 (w : World) : (bdRow 48 #[]).run Tryd.prog w = .ok (.value (.agg (cellsOf [0, 0, 0, 0, 0, 0, 0, 0, 0, 0, 0, 0, 0, 0, 0, 0, 0, 0]))) w := by kernel_rfl
/-- Its objects' cells. -/
def jaCells : List Int := [0, 0, 0, 2, 0, 0, 0, 0, 0, 0, 0, 0, 0, 0, 0, 0, 0, 0, 0, 0, 0, 2, 0, 0, 0, 0, 0, 0, 0, 0, 0, 0, 0, 0, 0, 0, 0, 0, 0, 0, 0, 0, 0, 0, 0, 0, 0, 0, 0, 0, 0, 0, 0, 0]
set_option maxRecDepth 100000 in
@[go_sem] theorem ja_slice (w : World) : (bsRow 22 3 #[(0, .agg (cellsOf [0, 0, 0, 2, 0, 0, 0, 0, 0, 0, 0, 0, 0, 0, 0, 0, 0, 0])), (1, .agg (cellsOf [0, 0, 0, 2, 0, 0, 0, 0, 0, 0, 0, 0, 0, 0, 0, 0, 0, 0])), (2, .agg (cellsOf [0, 0, 0, 0, 0, 0, 0, 0, 0, 0, 0, 0, 0, 0, 0, 0, 0, 0]))]).run Tryd.prog w
    = .ok (.value (.slice (some ⟨w.heap.size, 0, none⟩) 3 3)) (w.alloc (.cells (cellsOf jaCells) 48)) := by kernel_rfl
set_option maxRecDepth 100000 in
@[go_sem] theorem ja_state (w : World) (b : Nat) : (bdRow 29 #[(0, .slice (some ⟨b, 0, none⟩) 3 3)]).run Tryd.prog w = .ok (.value (.agg (stA ⟨.mk b 0 3 3, fun _ => .nil⟩ fun _ => 0))) w := by kernel_rfl
def jaV0 (b : Nat) : SV := ⟨.mk b 0 3 3, fun _ => .nil⟩
/-- Its slices. -/
def jaV (b : Nat) : SV := ⟨.mk b 0 3 3, upd (upd (fun _ => .nil) 2 (.mk (b + 1 + 1) 0 2 2)) 0 (.mk (b + 1 + 1 + 1) 0 1 1)⟩
theorem ja_put (b : Nat) : ((stA { objs := .mk b 0 3 3, list := fun _ => .nil } fun _ => 0).setIfInBounds 3 (.slice (some ⟨b + 1 + 1, 0, none⟩) 2 2)).setIfInBounds 1 (.slice (some ⟨b + 1 + 1 + 1, 0, none⟩) 1 1) = stA (jaV b) fun _ => 0 := by
  have e1 := stA_put3 (jaV0 b) (fun _ => 0) (.mk (b + 1 + 1) 0 2 2)
  have e2 := stA_put1 { jaV0 b with list := upd (jaV0 b).list 2 (.mk (b + 1 + 1) 0 2 2) } (fun _ => 0) (.mk (b + 1 + 1 + 1) 0 1 1)
  rw [← e1] at e2
  exact e2
theorem ja_rep (w : World) : RepSt ((((w.alloc (.cells (cellsOf jaCells) 48)).alloc (.cells (stA (jaV w.heap.size) fun _ => 0) 29)).alloc (.cells (cellsOf [0, 1]) 3)).alloc (.cells #[.int .i64 2] 3)) (jaV w.heap.size) jaS := by
  have hf : flat jaS.objs = jaCells.map I := rfl
  have h1 : ∀ i, ((((w.alloc (.cells (cellsOf jaCells) 48)).alloc (.cells (stA (jaV w.heap.size) fun _ => 0) 29)).alloc (.cells (cellsOf [0, 1]) 3)).alloc (.cells #[.int .i64 2] 3)).cell? ⟨w.heap.size, i, none⟩ = (cellsOf jaCells)[i]? := fun i => by go_simp
  have hO : Cells ((((w.alloc (.cells (cellsOf jaCells) 48)).alloc (.cells (stA (jaV w.heap.size) fun _ => 0) 29)).alloc (.cells (cellsOf [0, 1]) 3)).alloc (.cells #[.int .i64 2] 3)) (.mk w.heap.size 0 3 3) 18 (jaCells.map I) := by
    refine ⟨(by simp [jaCells, Sl.n]), (by show 3 ≤ 3; omega), fun j u hu => ?_⟩
    show World.cell? _ ⟨w.heap.size, 0 + j, none⟩ = some u
    rw [h1, Nat.zero_add, ← hu]
    simp [cellsOf]
  rw [← hf] at hO
  refine ⟨hO.rows (by omega) (fun i hi => ?_), fun z hz => ?_⟩
  · have hi : i < 3 := hi
    have : i = 0 ∨ i = 1 ∨ i = 2 := by omega
    rcases this with rfl | rfl | rfl <;> rfl
  · by_cases h0 : z = 0
    · subst h0
      have h1 : ((((w.alloc (.cells (cellsOf jaCells) 48)).alloc (.cells (stA (jaV w.heap.size) fun _ => 0) 29)).alloc (.cells (cellsOf [0, 1]) 3)).alloc (.cells #[.int .i64 2] 3)).cell? ⟨w.heap.size + 1 + 1 + 1, 0, none⟩ = some (.int .i64 2) := by go_simp
      exact (one_int _ _ 2 h1).ints
    by_cases h2 : z = 2
    · subst h2
      have h1 : ∀ i, ((((w.alloc (.cells (cellsOf jaCells) 48)).alloc (.cells (stA (jaV w.heap.size) fun _ => 0) 29)).alloc (.cells (cellsOf [0, 1]) 3)).alloc (.cells #[.int .i64 2] 3)).cell? ⟨w.heap.size + 1 + 1, i, none⟩ = (cellsOf [0, 1])[i]? := fun i => by go_simp
      exact ⟨rfl, Nat.le_refl _, fun i hi => by
        show World.cell? _ ⟨w.heap.size + 1 + 1, 0 + i, none⟩ = _
        rw [h1, Nat.zero_add]
        exact cellsOf_get _ _ hi⟩
    · have e1 : (jaV w.heap.size).list z = .nil := by simp [jaV, upd, h0, h2]
      have e2 : jaS.list z = [] := by simp [jaS, upd, h0, h2]
      rw [e1, e2]; exact Ints.nil _
set_option maxRecDepth 100000 in
set_option maxHeartbeats 2000000 in
theorem alive_any (w : World) : Calls Tryd.prog 5 #[] w fun e w' => e = .returned (.bool true) ∧ Grow w w' := by
  go_enter Tryd.func5, Tryd.ntmps5
  go_wp2_with fail
  obtain ⟨l, hj, hl⟩ := ja_ev
  have hS : Small jaS := ⟨by decide, fun z hz => by simp only [jaS, upd]; (repeat' split) <;> simp⟩
  rw [ja_put, stA_all]
  refine (judge_any jaS (jaV w.heap.size) _ (ja_rep w) hS 2 1).mono ?_
  rw [hj]
  rintro e' w' ⟨s, rfl, hR, _, _, nx, rfl⟩
  have hsn : s.n = 3 := by rw [hR.len, hl]
  clear hR hj
  go_wp2_with fail
  go_ret
  exact ⟨rfl, (by repeat (first | exact Grow.refl _ | refine Grow.andr ?_ | refine Grow.plus ?_ _ | refine Grow.alloc ?_ _ | refine Grow.drew ?_ | refine Grow.drewN ?_ _))⟩
end Go.Proofs.YtmmkmhpchoelkaaDoor
