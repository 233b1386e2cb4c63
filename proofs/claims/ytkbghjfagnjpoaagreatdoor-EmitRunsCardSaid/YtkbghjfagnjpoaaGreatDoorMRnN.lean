/-
  Events done are undone: the plain law of EmitRuns.
-/
import Derived.Test.YtkbghjfagnjpoaaGreatDoorMRtA
namespace Go.Proofs.YtkbghjfagnjpoaaGreatDoor
open Go Go.RowKit Go.Shelf

/-- Each object stands in one list, and its zone is that list. -/
structure ZonW (S : St) : Prop where
  ok : ∀ z, z < 11 → ∀ x ∈ S.list z, 0 ≤ x ∧ x < S.objs.length ∧ gt (rowAt S.objs x.toNat) 3 = z
  once : ∀ id : Nat, id < S.objs.length → cntTo S id 11 = 1
/-- A state all of whose numbers may be set again. -/
structure Fine (S : St) : Prop where
  many : S.objs.length ≤ 400
  wid : WidSt S
  zon : ZonW S
  obj : ∀ i, i < S.objs.length → ∀ f, f < 18 → -1073741824 ≤ gt (rowAt S.objs i) f ∧ gt (rowAt S.objs i) f ≤ 1073741824
  num : ∀ q, q < 25 → -1073741824 ≤ S.num q ∧ S.num q ≤ 1073741824
theorem Right.fine {S : St} (h : Right S) (hw : WidSt S) : Fine S := by
  refine ⟨h.many, hw, ⟨fun z hz x hx => ?_, h.zon.once⟩, fun i hi f hf => ?_, fun q hq => ?_⟩
  · obtain ⟨p, q, r, _⟩ := h.zon.ok z hz x hx
    exact ⟨p, q, r⟩
  · have h1 := okTo18 _ _ (h.row hi) f hf
    have hm := h.many
    have : f = 0 ∨ f = 1 ∨ f = 2 ∨ f = 3 ∨ f = 4 ∨ f = 5 ∨ f = 6 ∨ f = 7 ∨ f = 8 ∨ f = 9 ∨ f = 10 ∨ f = 11 ∨ f = 12 ∨ f = 13 ∨ f = 14 ∨ f = 15 ∨ f = 16 ∨ f = 17 := by omega
    rcases this with rfl | rfl | rfl | rfl | rfl | rfl | rfl | rfl | rfl | rfl | rfl | rfl | rfl | rfl | rfl | rfl | rfl | rfl <;> simp [objBounds, gt] at h1 <;> simp only [gt, List.getD_eq_getElem?_getD] <;> omega
  · by_cases h18 : q < 18
    · have hp : ∀ p f, p < 2 → f < 9 → q = p * 9 + f → -1073741824 ≤ S.num q ∧ S.num q ≤ 1073741824 := fun p f hp hf e => by
        have := h.pl p f hp hf
        rw [e]
        generalize S.num (p * 9 + f) = u at *
        have hf' : f = 0 ∨ f = 1 ∨ f = 2 ∨ f = 3 ∨ f = 4 ∨ f = 5 ∨ f = 6 ∨ f = 7 ∨ f = 8 := by omega
        rcases hf' with rfl | rfl | rfl | rfl | rfl | rfl | rfl | rfl | rfl <;> simp [plBounds, gt] at this <;> omega
      exact hp (q / 9) (q % 9) (by omega) (by omega) (by omega)
    · have hp : ∀ f, f < 7 → q = 18 + f → -1073741824 ≤ S.num q ∧ S.num q ≤ 1073741824 := fun f hf e => by
        have := h.gm f hf
        rw [e]
        generalize S.num (18 + f) = u at *
        have hf' : f = 0 ∨ f = 1 ∨ f = 2 ∨ f = 3 ∨ f = 4 ∨ f = 5 ∨ f = 6 := by omega
        rcases hf' with rfl | rfl | rfl | rfl | rfl | rfl | rfl <;> simp [gmBounds, gt] at this <;> omega
      exact hp (q - 18) (by omega) (by omega)
theorem ZonW.moved {S : St} (h : ZonW S) (hw : WidSt S) (a b c d e : Nat) (hA : a < S.objs.length) (hb : b < 11) (hd : d < 11) (hc : c < (S.list b).length) (ha : gt (S.list b) c = a) (he : e ≤ (moveTo S b c d).length) : ZonW (movedS S a b c d e) := by
  have hcnt := cnt_moved S a b c d e hb hd hc ha he
  have hlen : (movedS S a b c d e).objs.length = S.objs.length := by simp [movedS]
  have hmem : (a : Int) ∈ (movedS S a b c d e).list d := by
    show (a : Int) ∈ upd _ d _ d
    rw [upd_same, List.mem_insertIdx he]; exact Or.inl rfl
  have hrow : ∀ j, rowAt (movedS S a b c d e).objs j = if a = j then (rowAt S.objs a).set 3 d else rowAt S.objs j := fun j => rowAt_set _ _ _ _ hA
  have hold : ∀ z, z < 11 → ∀ x ∈ (movedS S a b c d e).list z, x = a ∨ x ∈ S.list z := by
    intro z hz x hx
    have hx : x ∈ upd (upd S.list b ((S.list b).eraseIdx c)) d ((moveTo S b c d).insertIdx e (a : Int)) z := hx
    by_cases e1 : z = d
    · subst e1
      rw [upd_same, List.mem_insertIdx he] at hx
      rcases hx with hx | hx
      · exact Or.inl hx
      · right
        unfold moveTo at hx
        by_cases e2 : z = b
        · subst e2; rw [if_pos rfl] at hx; exact List.mem_of_mem_eraseIdx hx
        · rw [if_neg e2] at hx; exact hx
    · rw [upd_ne _ _ _ _ e1] at hx
      right
      by_cases e2 : z = b
      · subst e2; rw [upd_same] at hx; exact List.mem_of_mem_eraseIdx hx
      · rw [upd_ne _ _ _ _ e2] at hx; exact hx
  refine ⟨fun z hz x hx => ?_, fun id hid => by rw [hcnt]; exact h.once id (by omega)⟩
  by_cases e1 : x = a
  · subst e1
    have hzd : z = d := by
      have h3 := h.once a hA
      rw [← hcnt] at h3
      rcases Nat.lt_trichotomy z d with h | h | h
      · have := cnt_two _ _ z d h 11 hd hx hmem; omega
      · exact h
      · have := cnt_two _ _ d z h 11 hz hmem hx; omega
    subst hzd
    refine ⟨by omega, by omega, ?_⟩
    rw [Int.toNat_natCast, hrow, if_pos rfl, gt_set _ _ _ _ (by rw [hw a hA]; omega)]; simp
  · rcases hold z hz x hx with h1 | h1
    · exact absurd h1 e1
    obtain ⟨p, q, r⟩ := h.ok z hz x h1
    refine ⟨p, by omega, ?_⟩
    rw [hrow, if_neg (by omega)]; exact r
theorem ZonW.zone {S : St} (h : ZonW S) (a : Nat) (ha : a < S.objs.length) : 0 ≤ gt (rowAt S.objs a) 3 ∧ gt (rowAt S.objs a) 3 < 11 := by
  have h1 := h.once a ha
  have : ∀ k, k ≤ 11 → 0 < cntTo S (a : Int) k → ∃ z, z < k ∧ (a : Int) ∈ S.list z := fun k => by
    induction k with
    | zero => intro _ h; simp [cntTo] at h
    | succ k ih =>
      intro hk h
      rw [cntTo_succ] at h
      by_cases e : 0 < cntTo S (a : Int) k
      · obtain ⟨z, hz, hm⟩ := ih (by omega) e
        exact ⟨z, by omega, hm⟩
      · exact ⟨k, by omega, List.count_pos_iff.1 (by omega)⟩
  obtain ⟨z, hz, hm⟩ := this 11 (Nat.le_refl _) (by omega)
  obtain ⟨_, _, r⟩ := h.ok z hz _ hm
  rw [Int.toNat_natCast] at r
  omega
/-! ### What an event may be -/
theorem check_all {k a b c d f : Int} (h : evCheck [k, a, b, c, d, f] = 0) : 0 ≤ k ∧ k ≤ 5 ∧ (k = 0 ∨ k = 5 → 0 ≤ a ∧ a < 120 ∧ 0 ≤ b ∧ b < 2 ∧ 0 ≤ c ∧ c < 3 ∧ d = 0 ∧ f = 0) ∧ (k = 1 → 0 ≤ a ∧ 0 ≤ b ∧ b < 11 ∧ 0 ≤ c ∧ 0 ≤ d ∧ d < 11 ∧ 0 ≤ f) ∧
    (k = 2 → 0 ≤ a ∧ 0 ≤ b ∧ b < 18 ∧ b ≠ 3 ∧ -1073741824 ≤ d ∧ d ≤ 1073741824 ∧ f = 0) ∧ (k = 3 → 0 ≤ a ∧ a < 2 ∧ 0 ≤ b ∧ b < 9 ∧ -1073741824 ≤ d ∧ d ≤ 1073741824 ∧ f = 0) ∧ (k = 4 → a = 0 ∧ 0 ≤ b ∧ b < 7 ∧ -1073741824 ≤ d ∧ d ≤ 1073741824 ∧ f = 0) := by
  by_cases hk : 0 ≤ k ∧ k < 6
  · have : k = 0 ∨ k = 1 ∨ k = 2 ∨ k = 3 ∨ k = 4 ∨ k = 5 := by omega
    rcases this with rfl | rfl | rfl | rfl | rfl | rfl <;>
    · unfold evCheck evSpare evRanges evMakes inR evSmall inB at h
      simp only [gt, List.getD_cons_zero, List.getD_cons_succ] at h
      simp at h
      omega
  · exfalso
    unfold evCheck inR at h
    have : (decide (0 ≤ gt [k, a, b, c, d, f] 0) && decide (gt [k, a, b, c, d, f] 0 < 6)) = false := by
      show (decide (0 ≤ k) && decide (k < 6)) = false
      simp; omega
    rw [if_pos this] at h
    cases h
theorem check_of {k a b c d f : Int} (h : (k = 0 ∨ k = 5) ∧ 0 ≤ a ∧ a < 120 ∧ 0 ≤ b ∧ b < 2 ∧ 0 ≤ c ∧ c < 3 ∧ d = 0 ∧ f = 0 ∨ k = 2 ∧ 0 ≤ a ∧ 0 ≤ b ∧ b < 18 ∧ b ≠ 3 ∧ -1073741824 ≤ d ∧ d ≤ 1073741824 ∧ f = 0 ∨ k = 3 ∧ 0 ≤ a ∧ a < 2 ∧ 0 ≤ b ∧ b < 9 ∧ -1073741824 ≤ d ∧ d ≤ 1073741824 ∧ f = 0 ∨ k = 4 ∧ a = 0 ∧ 0 ≤ b ∧ b < 7 ∧ -1073741824 ≤ d ∧ d ≤ 1073741824 ∧ f = 0) :
    evCheck [k, a, b, c, d, f] = 0 := by
  rcases h with ⟨rfl | rfl, h⟩ | ⟨rfl, h⟩ | ⟨rfl, h⟩ | ⟨rfl, h⟩ <;>
  · unfold evCheck evSpare evRanges evMakes inR evSmall inB
    simp only [gt, List.getD_cons_zero, List.getD_cons_succ]
    simp
    omega
/-- What is set is set back. -/
theorem setObj_back (S : St) (a f : Nat) (v : Int) : (S.setObj a f v).setObj a f (gt (rowAt S.objs a) f) = S := by
  unfold St.setObj
  by_cases ha : a < S.objs.length
  · show ({ S with objs := (S.objs.set a ((rowAt S.objs a).set f v)).set a ((rowAt (S.objs.set a ((rowAt S.objs a).set f v)) a).set f (gt (rowAt S.objs a) f)) } : St) = S
    rw [rowAt_set _ _ _ _ ha, if_pos rfl, List.set_set, List.set_set, set_gt, set_rowAt]
  · show ({ S with objs := (S.objs.set a ((rowAt S.objs a).set f v)).set a ((rowAt (S.objs.set a ((rowAt S.objs a).set f v)) a).set f (gt (rowAt S.objs a) f)) } : St) = S
    rw [List.set_eq_of_length_le (by rw [List.length_set]; omega), List.set_eq_of_length_le (by omega)]
theorem setNum_back (S : St) (q : Nat) (v : Int) : (S.setNum q v).setNum q (S.num q) = S := by
  unfold St.setNum
  show ({ S with num := upd (upd S.num q v) q (S.num q) } : St) = S
  rw [upd_upd, upd_self]
theorem Fine.setNum {S : St} (h : Fine S) (q : Nat) (v : Int) (hv : -1073741824 ≤ v ∧ v ≤ 1073741824) : Fine (S.setNum q v) := by
  refine ⟨h.many, h.wid, ⟨h.zon.ok, h.zon.once⟩, h.obj, fun i hi => ?_⟩
  show -1073741824 ≤ upd S.num q v i ∧ upd S.num q v i ≤ 1073741824
  by_cases e : i = q
  · rw [e, upd_same]; exact hv
  · rw [upd_ne _ _ _ _ e]; exact h.num i hi
theorem Fine.setObj {S : St} (h : Fine S) (a f : Nat) (v : Int) (ha : a < S.objs.length) (hf : f < 18) (hf3 : f ≠ 3) (hv : -1073741824 ≤ v ∧ v ≤ 1073741824) : Fine (S.setObj a f v) := by
  have hl := setObj_len S a f v
  have hr := fun i => setObj_row S a f i v ha
  refine ⟨by rw [hl]; exact h.many, setObj_wid h.wid a f v ha, ⟨fun z hz x hx => ?_, fun id hid => ?_⟩, fun i hi g hg => ?_, h.num⟩
  · obtain ⟨p, q, r⟩ := h.zon.ok z hz x hx
    refine ⟨p, by rw [hl]; exact q, ?_⟩
    rw [hr]; split
    · rename_i e
      rw [gt_set _ _ _ _ (by rw [h.wid a ha]; omega), if_neg hf3]
      rw [e]; exact r
    · exact r
  · exact h.zon.once id (by rw [hl] at hid; exact hid)
  · rw [hr]; split
    · rw [gt_set _ _ _ _ (by rw [h.wid a ha]; omega)]
      split
      · exact hv
      · exact h.obj a ha g hg
    · exact h.obj i (by rw [hl] at hi; exact hi) g hg
theorem Fine.moved {S : St} (h : Fine S) (a b c d e : Nat) (hA : a < S.objs.length) (hb : b < 11) (hd : d < 11) (hc : c < (S.list b).length) (ha : gt (S.list b) c = a) (he : e ≤ (moveTo S b c d).length) : Fine (movedS S a b c d e) := by
  have hlen : (movedS S a b c d e).objs.length = S.objs.length := by simp [movedS]
  have hrow : ∀ j, rowAt (movedS S a b c d e).objs j = if a = j then (rowAt S.objs a).set 3 d else rowAt S.objs j := fun j => rowAt_set _ _ _ _ hA
  refine ⟨by rw [hlen]; exact h.many, moved_wid h.wid a b c d e hA, h.zon.moved h.wid a b c d e hA hb hd hc ha he, fun i hi g hg => ?_, h.num⟩
  rw [hrow]; split
  · rw [gt_set _ _ _ _ (by rw [h.wid a hA]; omega)]
    split
    · omega
    · exact h.obj a hA g hg
  · exact h.obj i (by rw [hlen] at hi; exact hi) g hg
theorem Fine.make {S : St} (h : Fine S) {c o k : Int} (hn : S.objs.length < 400) (hc : 0 ≤ c ∧ c < 120 ∧ 0 ≤ o ∧ o < 2 ∧ 0 ≤ k ∧ k < 3) :
    Fine { S with objs := S.objs ++ [[c, o, o, 10, 0, 0, 0, 0, 0, 0, 0, 0, 0, k, 0, 0, 0, 3]], list := upd S.list 10 (S.list 10 ++ [(S.objs.length : Int)]) } := by
  generalize hr : ([c, o, o, 10, 0, 0, 0, 0, 0, 0, 0, 0, 0, k, 0, 0, 0, 3] : List Int) = r
  have hl : (S.objs ++ [r]).length = S.objs.length + 1 := by simp
  have hrow : ∀ i, i < S.objs.length → rowAt (S.objs ++ [r]) i = rowAt S.objs i := fun i hi => by rw [rowAt_app, if_pos hi]
  have hlast : rowAt (S.objs ++ [r]) S.objs.length = r := by rw [rowAt_app, if_neg (by omega), if_pos rfl]
  have hmem : ∀ z, z < 11 → ∀ x ∈ S.list z, x ≠ (S.objs.length : Int) := fun z hz x hx e => by
    obtain ⟨p, q, _⟩ := h.zon.ok z hz x hx
    omega
  refine ⟨by show (S.objs ++ [r]).length ≤ 400; omega, fun i hi => ?_, ⟨fun z hz x hx => ?_, fun id hid => ?_⟩, fun i hi f hf => ?_, h.num⟩
  · show (rowAt (S.objs ++ [r]) i).length = 18
    have hi : i < (S.objs ++ [r]).length := hi
    rw [hl] at hi
    by_cases e : i < S.objs.length
    · rw [hrow i e]; exact h.wid i e
    · rw [show i = S.objs.length by omega, hlast, ← hr]; rfl
  · have hx : x ∈ upd S.list 10 (S.list 10 ++ [(S.objs.length : Int)]) z := hx
    have old : x ∈ S.list z → 0 ≤ x ∧ x < ((S.objs ++ [r]).length : Int) ∧ gt (rowAt (S.objs ++ [r]) x.toNat) 3 = z := fun hx => by
      obtain ⟨p, q, s⟩ := h.zon.ok z hz x hx
      refine ⟨p, by omega, ?_⟩
      rw [hrow _ (by omega)]; exact s
    by_cases e : z = 10
    · subst e
      rw [upd_same, List.mem_append, List.mem_singleton] at hx
      rcases hx with hx | hx
      · exact old hx
      · subst hx
        refine ⟨by omega, by show _ < ((S.objs ++ [r]).length : Int); omega, ?_⟩
        show gt (rowAt (S.objs ++ [r]) (S.objs.length : Int).toNat) 3 = (10 : Nat)
        rw [Int.toNat_natCast, hlast, ← hr]; rfl
    · rw [upd_ne _ _ _ _ (by omega)] at hx
      exact old hx
  · have hid : id < (S.objs ++ [r]).length := hid
    rw [hl] at hid
    rw [cnt_app _ _ _ _ _ (by omega)]
    by_cases e : id < S.objs.length
    · rw [h.zon.once id e, if_neg (by omega)]
    · rw [if_pos (by omega)]
      have : ∀ k, k ≤ 11 → cntTo S (id : Int) k = 0 := fun k => by
        induction k with
        | zero => intro _; simp [cntTo]
        | succ k ih =>
          intro hk
          rw [cntTo_succ, ih (by omega), List.count_eq_zero_of_not_mem (fun hm => hmem k (by omega) _ hm (by omega))]
      rw [this 11 (by omega)]
  · show -1073741824 ≤ gt (rowAt (S.objs ++ [r]) i) f ∧ gt (rowAt (S.objs ++ [r]) i) f ≤ 1073741824
    have hi : i < (S.objs ++ [r]).length := hi
    rw [hl] at hi
    by_cases e : i < S.objs.length
    · rw [hrow i e]; exact h.obj i e f hf
    · rw [show i = S.objs.length by omega, hlast, ← hr]
      have : f = 0 ∨ f = 1 ∨ f = 2 ∨ f = 3 ∨ f = 4 ∨ f = 5 ∨ f = 6 ∨ f = 7 ∨ f = 8 ∨ f = 9 ∨ f = 10 ∨ f = 11 ∨ f = 12 ∨ f = 13 ∨ f = 14 ∨ f = 15 ∨ f = 16 ∨ f = 17 := by omega
      rcases this with rfl | rfl | rfl | rfl | rfl | rfl | rfl | rfl | rfl | rfl | rfl | rfl | rfl | rfl | rfl | rfl | rfl | rfl <;> simp [gt] <;> omega
/-- An event done leaves such a state, and its opposite leads back. -/
theorem Fine.back {S T : St} (h : Fine S) {e : List Int} (he : e.length = 6) (h5 : gt e 0 ≠ 5) (hd : doEv S e = .ok T) : Fine T ∧ doEv T (evInvert e) = .ok S := by
  have hc := doEv_check hd
  obtain ⟨k, a, b, c, d, f, rfl⟩ : ∃ k a b c d f, e = [k, a, b, c, d, f] := by
    match e, he with
    | [k, a, b, c, d, f], _ => exact ⟨k, a, b, c, d, f, rfl⟩
  have h5 : k ≠ 5 := h5
  obtain ⟨k0, k5, c0, c1, c2, c3, c4⟩ := check_all hc
  have : k = 0 ∨ k = 1 ∨ k = 2 ∨ k = 3 ∨ k = 4 := by omega
  rcases this with rfl | rfl | rfl | rfl | rfl
  · obtain ⟨a0, a1, b0, b1, e0, e1, rfl, rfl⟩ := c0 (Or.inl rfl)
    obtain ⟨hn, rfl⟩ := doEv_make hd
    refine ⟨h.make hn ⟨a0, a1, b0, b1, e0, e1⟩, ?_⟩
    have hinv : evInvert [0, a, b, c, 0, 0] = [5, a, b, c, 0, 0] := rfl
    rw [hinv]
    unfold doEv
    rw [check_of (Or.inl ⟨Or.inr rfl, a0, a1, b0, b1, e0, e1, rfl, rfl⟩)]
    have g0 : gt [5, a, b, c, 0, 0] 0 = 5 := rfl
    rw [g0, if_neg (by simp), if_neg (by decide), if_pos rfl]
    unfold removeS
    have hrow : rowAt (S.objs ++ [[a, b, b, 10, 0, 0, 0, 0, 0, 0, 0, 0, 0, c, 0, 0, 0, 3]]) S.objs.length = [a, b, b, 10, 0, 0, 0, 0, 0, 0, 0, 0, 0, c, 0, 0, 0, 3] := by rw [rowAt_app, if_neg (by omega), if_pos rfl]
    have hcond : 0 < (S.objs ++ [[a, b, b, 10, 0, 0, 0, 0, 0, 0, 0, 0, 0, c, 0, 0, 0, 3]]).length ∧ 0 < (upd S.list 10 (S.list 10 ++ [(S.objs.length : Int)]) 10).length ∧ gt (upd S.list 10 (S.list 10 ++ [(S.objs.length : Int)]) 10) ((upd S.list 10 (S.list 10 ++ [(S.objs.length : Int)]) 10).length - 1) = ((S.objs ++ [[a, b, b, 10, 0, 0, 0, 0, 0, 0, 0, 0, 0, c, 0, 0, 0, 3]]).length : Int) - 1 ∧ rowAt (S.objs ++ [[a, b, b, 10, 0, 0, 0, 0, 0, 0, 0, 0, 0, c, 0, 0, 0, 3]]) ((S.objs ++ [[a, b, b, 10, 0, 0, 0, 0, 0, 0, 0, 0, 0, c, 0, 0, 0, 3]]).length - 1) = evMade [5, a, b, c, 0, 0] := by
      rw [upd_same]
      refine ⟨by simp, by simp, ?_, ?_⟩
      · simp [gt]
      · rw [List.length_append]
        show rowAt _ (S.objs.length + 1 - 1) = _
        rw [Nat.add_sub_cancel, hrow]; rfl
    rw [if_pos hcond]
    congr 1
    show ({ S with objs := (S.objs ++ [_]).take ((S.objs ++ [_]).length - 1), list := upd (upd S.list 10 (S.list 10 ++ [(S.objs.length : Int)])) 10 ((upd S.list 10 (S.list 10 ++ [(S.objs.length : Int)]) 10).take ((upd S.list 10 (S.list 10 ++ [(S.objs.length : Int)]) 10).length - 1)) } : St) = S
    rw [upd_upd, upd_same, List.length_append, List.length_append, List.length_singleton, List.length_singleton, Nat.add_sub_cancel, Nat.add_sub_cancel, List.take_left, List.take_left, upd_self]
  · obtain ⟨a0, b0, b1, e0, d0, d1, f0⟩ := c1 rfl
    obtain ⟨a, rfl⟩ := Int.eq_ofNat_of_zero_le a0
    obtain ⟨b, rfl⟩ := Int.eq_ofNat_of_zero_le b0
    obtain ⟨c, rfl⟩ := Int.eq_ofNat_of_zero_le e0
    obtain ⟨d, rfl⟩ := Int.eq_ofNat_of_zero_le d0
    obtain ⟨f, rfl⟩ := Int.eq_ofNat_of_zero_le f0
    have hb : b < 11 := by omega
    have hd' : d < 11 := by omega
    rw [doEv_move _ _ _ _ _ _ hb hd'] at hd
    unfold moveS at hd
    split at hd
    · cases hd
    split at hd
    · cases hd
    split at hd
    · cases hd
    rename_i hA hC hE
    cases hd
    have hC : c < (S.list b).length ∧ gt (S.list b) c = a := Decidable.of_not_not hC
    have ha : a < S.objs.length := by omega
    obtain ⟨_, _, p3⟩ := h.zon.ok b hb _ (gt_mem _ _ hC.1)
    rw [hC.2, Int.toNat_natCast] at p3
    refine ⟨h.moved a b c d f ha hb hd' hC.1 hC.2 (by omega), ?_⟩
    have hinv : evInvert [1, (a : Int), (b : Int), (c : Int), (d : Int), (f : Int)] = [1, (a : Int), (d : Int), (f : Int), (b : Int), (c : Int)] := rfl
    rw [hinv, doEv_move _ _ _ _ _ _ hd' hb]
    exact moved_back S a b c d f ha hC.1 hC.2 (by omega) p3
  · obtain ⟨a0, b0, b1, b3, d0, d1, rfl⟩ := c2 rfl
    have hu : gt (rowAt S.objs a.toNat) b.toNat = c := by
      unfold doEv at hd
      rw [if_neg (by rw [hc]; simp)] at hd
      have g0 : gt [2, a, b, c, d, 0] 0 = 2 := rfl
      have g1 : gt [2, a, b, c, d, 0] 1 = a := rfl
      have g2 : gt [2, a, b, c, d, 0] 2 = b := rfl
      have g3 : gt [2, a, b, c, d, 0] 3 = c := rfl
      rw [g0, g1, g2, g3] at hd
      simp only [reduceIte, show ¬ (2 : Int) = 0 by decide, show ¬ (2 : Int) = 5 by decide, show ¬ (2 : Int) = 1 by decide] at hd
      split at hd
      · cases hd
      · split at hd
        · cases hd
        · rename_i hx; exact Decidable.of_not_not hx
    obtain ⟨hl, rfl⟩ := doEv_obj hd
    obtain ⟨a, rfl⟩ := Int.eq_ofNat_of_zero_le a0
    obtain ⟨b, rfl⟩ := Int.eq_ofNat_of_zero_le b0
    have ha : a < S.objs.length := by omega
    simp only [Int.toNat_natCast] at hu ⊢
    have ho := h.obj a ha b (by omega)
    rw [hu] at ho
    refine ⟨h.setObj a b d ha (by omega) (by omega) ⟨d0, d1⟩, ?_⟩
    have hinv : evInvert [2, (a : Int), (b : Int), c, d, 0] = [2, (a : Int), (b : Int), d, c, 0] := rfl
    rw [hinv]
    unfold doEv
    rw [check_of (Or.inr (Or.inl ⟨rfl, by omega, by omega, b1, b3, ho.1, ho.2, rfl⟩))]
    have g0 : gt [2, (a : Int), (b : Int), d, c, 0] 0 = 2 := rfl
    have g1 : gt [2, (a : Int), (b : Int), d, c, 0] 1 = a := rfl
    have g2 : gt [2, (a : Int), (b : Int), d, c, 0] 2 = b := rfl
    have g3 : gt [2, (a : Int), (b : Int), d, c, 0] 3 = d := rfl
    have g4 : gt [2, (a : Int), (b : Int), d, c, 0] 4 = c := rfl
    rw [g0, g1, g2, g3, g4, if_neg (by simp), if_neg (by decide), if_neg (by decide), if_neg (by decide), if_pos rfl, Int.toNat_natCast, Int.toNat_natCast, setObj_len, if_neg (by omega), setObj_row S a b a d ha, if_pos rfl, gt_set _ _ _ _ (by rw [h.wid a ha]; omega), if_pos rfl, if_neg (by simp), ← hu, setObj_back]
  · obtain ⟨a0, a1, b0, b1, d0, d1, rfl⟩ := c3 rfl
    have hu : S.num (a.toNat * 9 + b.toNat) = c := by
      unfold doEv at hd
      rw [if_neg (by rw [hc]; simp)] at hd
      have g0 : gt [3, a, b, c, d, 0] 0 = 3 := rfl
      have g1 : gt [3, a, b, c, d, 0] 1 = a := rfl
      have g2 : gt [3, a, b, c, d, 0] 2 = b := rfl
      have g3 : gt [3, a, b, c, d, 0] 3 = c := rfl
      rw [g0, g1, g2, g3] at hd
      simp at hd
      split at hd
      · rename_i hx; exact hx
      · cases hd
    have := doEv_pl hd
    subst this
    have ho := h.num (a.toNat * 9 + b.toNat) (by omega)
    rw [hu] at ho
    refine ⟨h.setNum _ d ⟨d0, d1⟩, ?_⟩
    have hinv : evInvert [3, a, b, c, d, 0] = [3, a, b, d, c, 0] := rfl
    rw [hinv]
    unfold doEv
    rw [check_of (Or.inr (Or.inr (Or.inl ⟨rfl, a0, a1, b0, b1, ho.1, ho.2, rfl⟩)))]
    have g0 : gt [3, a, b, d, c, 0] 0 = 3 := rfl
    have g1 : gt [3, a, b, d, c, 0] 1 = a := rfl
    have g2 : gt [3, a, b, d, c, 0] 2 = b := rfl
    have g3 : gt [3, a, b, d, c, 0] 3 = d := rfl
    have g4 : gt [3, a, b, d, c, 0] 4 = c := rfl
    rw [g0, g1, g2, g3, g4, if_neg (by simp), if_neg (by decide), if_neg (by decide), if_neg (by decide), if_neg (by decide)]
    simp only [reduceIte]
    have hs : (S.setNum (a.toNat * 9 + b.toNat) d).num (a.toNat * 9 + b.toNat) = d := by show upd S.num _ d _ = d; rw [upd_same]
    rw [hs, if_neg (by simp), ← hu, setNum_back]
  · obtain ⟨rfl, b0, b1, d0, d1, rfl⟩ := c4 rfl
    have hu : S.num (18 + b.toNat) = c := by
      unfold doEv at hd
      rw [if_neg (by rw [hc]; simp)] at hd
      have g0 : gt [4, 0, b, c, d, 0] 0 = 4 := rfl
      have g2 : gt [4, 0, b, c, d, 0] 2 = b := rfl
      have g3 : gt [4, 0, b, c, d, 0] 3 = c := rfl
      rw [g0, g2, g3] at hd
      simp at hd
      split at hd
      · rename_i hx; exact hx
      · cases hd
    have := doEv_gm hd
    subst this
    have ho := h.num (18 + b.toNat) (by omega)
    rw [hu] at ho
    refine ⟨h.setNum _ d ⟨d0, d1⟩, ?_⟩
    have hinv : evInvert [4, 0, b, c, d, 0] = [4, 0, b, d, c, 0] := rfl
    rw [hinv]
    unfold doEv
    rw [check_of (Or.inr (Or.inr (Or.inr ⟨rfl, rfl, b0, b1, ho.1, ho.2, rfl⟩)))]
    have g0 : gt [4, 0, b, d, c, 0] 0 = 4 := rfl
    have g2 : gt [4, 0, b, d, c, 0] 2 = b := rfl
    have g3 : gt [4, 0, b, d, c, 0] 3 = d := rfl
    have g4 : gt [4, 0, b, d, c, 0] 4 = c := rfl
    rw [g0, g2, g3, g4, if_neg (by simp), if_neg (by decide), if_neg (by decide), if_neg (by decide), if_neg (by decide)]
    simp only [show ¬ (4 : Int) = 3 by decide, reduceIte]
    have hs : (S.setNum (18 + b.toNat) d).num (18 + b.toNat) = d := by show upd S.num _ d _ = d; rw [upd_same]
    rw [hs, if_neg (by simp), ← hu, setNum_back]
/-! ### Runs -/
/-- The state behind events, if they all may be. -/
def runL (S : St) : List (List Int) → Except Int St
  | [] => .ok S
  | e :: l => match doEv S e with
    | .error n => .error n
    | .ok T => runL T l
theorem runL_app {S T : St} : ∀ (l m : List (List Int)) , runL S l = .ok T → runL S (l ++ m) = runL T m := fun l => by
  induction l generalizing S with
  | nil => intro m h; cases h; rfl
  | cons e l ih =>
    intro m h
    simp only [runL, List.cons_append] at h ⊢
    cases hd : doEv S e with
    | error n => rw [hd] at h; cases h
    | ok U =>
      rw [hd] at h
      exact ih m h
theorem runL_one {S T : St} {e : List Int} (h : doEv S e = .ok T) : runL S [e] = .ok T := by unfold runL; rw [h]; rfl
def invR (l : List (List Int)) : List (List Int) := (l.map evInvert).reverse
/-- Events done are undone. -/
theorem Fine.run {S T : St} (h : Fine S) : ∀ l : List (List Int), (∀ e ∈ l, e.length = 6 ∧ gt e 0 ≠ 5) → runL S l = .ok T → Fine T ∧ runL T (invR l) = .ok S := fun l => by
  induction l generalizing S with
  | nil => intro _ hr; cases hr; exact ⟨h, rfl⟩
  | cons e l ih =>
    intro hl hr
    unfold runL at hr
    cases hd : doEv S e with
    | error n => rw [hd] at hr; cases hr
    | ok U =>
      rw [hd] at hr
      obtain ⟨e6, e5⟩ := hl e (by simp)
      obtain ⟨hU, hb⟩ := h.back e6 e5 hd
      obtain ⟨hT, hi⟩ := ih hU (fun x hx => hl x (by simp [hx])) hr
      refine ⟨hT, ?_⟩
      unfold invR
      rw [List.map_cons, List.reverse_cons, runL_app _ _ (show runL T (l.map evInvert).reverse = .ok U from hi)]
      exact runL_one hb
/-- What an emitter told leads from the state that it began with to its own. -/
structure Told (S : St) (d : List Int) (n : Nat) (E : Em) : Prop where
  err : E.err = 0
  draws : E.draws = d
  pend : E.pend.length ≤ n
  run : runL S E.evs = .ok E.now
  evs : ∀ e ∈ E.evs, e.length = 6 ∧ gt e 0 ≠ 5
  len : E.evs.length ≤ n
/-- An error, or such an emitter. -/
def OutT (S : St) (d : List Int) (n : Nat) (E : Em) : Prop := E.err ≠ 0 ∨ Told S d n E
theorem Told.mono {S : St} {d : List Int} {n m : Nat} {E : Em} (h : Told S d n E) (hm : n ≤ m) : Told S d m E := ⟨h.err, h.draws, Nat.le_trans h.pend hm, h.run, h.evs, Nat.le_trans h.len hm⟩
theorem OutT.mono {S : St} {d : List Int} {n m : Nat} {E : Em} (h : OutT S d n E) (hm : n ≤ m) : OutT S d m E := h.imp id (fun h => h.mono hm)
theorem Told.do1 {S : St} {d : List Int} {n : Nat} {E : Em} (h : Told S d n E) (e : List Int) (he : e.length = 6) (h5 : gt e 0 ≠ 5) : OutT S d (n + 1) (E.do1 e) := by
  unfold Em.do1
  rw [if_neg (by rw [h.err]; simp)]
  cases hd : doEv E.now e with
  | error k => exact Or.inl (doEv_err hd)
  | ok T =>
    show OutT S d (n + 1) (if E.evs.length < 65536 then _ else _)
    split
    · refine Or.inr ⟨h.err, h.draws, Nat.le_succ_of_le h.pend, ?_, fun x hx => ?_, by rw [List.length_append]; have := h.len; show E.evs.length + 1 ≤ _; omega⟩
      · show runL S (E.evs ++ [e]) = .ok T
        rw [runL_app _ _ h.run]; exact runL_one hd
      · rcases List.mem_append.1 hx with hx | hx
        · exact h.evs x hx
        · rw [List.mem_singleton] at hx; subst hx; exact ⟨he, h5⟩
    · exact Or.inl (by show (5 : Int) ≠ 0; decide)
theorem OutT.do1 {S : St} {d : List Int} {n : Nat} {E : Em} (h : OutT S d n E) (e : List Int) (he : e.length = 6) (h5 : gt e 0 ≠ 5) : OutT S d (n + 1) (E.do1 e) := by
  rcases h with h | h
  · exact Or.inl (do1_err h e)
  · exact h.do1 e he h5
theorem OutT.dos {S : St} {d : List Int} : ∀ (l : List (List Int)) {n : Nat} {E : Em}, OutT S d n E → (∀ e ∈ l, e.length = 6 ∧ gt e 0 ≠ 5) → OutT S d (n + l.length) (E.dos l)
  | [], _, _, h, _ => h
  | e :: l, n, E, h, hl => by
    obtain ⟨e6, e5⟩ := hl e (by simp)
    have := OutT.dos l (h.do1 e e6 e5) (fun x hx => hl x (by simp [hx]))
    rw [List.length_cons, show n + (l.length + 1) = n + 1 + l.length by omega]
    exact this
theorem OutT.fail {S : St} {d : List Int} {n : Nat} {E : Em} (h : OutT S d n E) (k : Int) : OutT S d n (E.fail k) := by
  rcases h with h | h
  · refine Or.inl ?_
    unfold Em.fail; rw [if_neg h]; exact h
  · unfold Em.fail
    rw [if_pos h.err]
    by_cases hk : k = 0
    · exact Or.inr ⟨hk, h.draws, h.pend, h.run, h.evs, h.len⟩
    · exact Or.inl hk
theorem OutT.set {S : St} {d : List Int} {n : Nat} {E : Em} (h : OutT S d n E) (e : List Int) (was v : Int) (he : e.length = 6) (h5 : gt e 0 ≠ 5) : OutT S d (n + 1) (E.set e was v) := by
  unfold Em.set
  split
  · exact (h.fail _).mono (Nat.le_succ n)
  · refine h.do1 _ (by rw [List.length_set, List.length_set, he]) ?_
    have : gt ((e.set 3 was).set 4 v) 0 = gt e 0 := by
      unfold gt List.getD
      rw [List.getElem?_set_ne (by decide), List.getElem?_set_ne (by decide)]
    rw [this]; exact h5
theorem OutT.setObj {S : St} {d : List Int} {n : Nat} {E : Em} (h : OutT S d n E) (id f v : Int) : OutT S d (n + 1) (E.setObj id f v) := by
  unfold Em.setObj
  split
  · exact h.mono (Nat.le_succ n)
  split
  · exact h.do1 _ rfl (by show (2 : Int) ≠ 5; decide)
  · exact h.set _ _ _ rfl (by show (2 : Int) ≠ 5; decide)
theorem OutT.setGame {S : St} {d : List Int} {n : Nat} {E : Em} (h : OutT S d n E) (f v : Int) : OutT S d (n + 1) (E.setGame f v) := by
  unfold Em.setGame
  split
  · exact h.mono (Nat.le_succ n)
  split
  · exact h.do1 _ rfl (by show (4 : Int) ≠ 5; decide)
  · exact h.set _ _ _ rfl (by show (4 : Int) ≠ 5; decide)
theorem OutT.setPl {S : St} {d : List Int} {n : Nat} {E : Em} (h : OutT S d n E) (p f v : Int) : OutT S d (n + 1) (E.setPl p f v) := by
  unfold Em.setPl
  split
  · exact h.mono (Nat.le_succ n)
  split
  · exact h.do1 _ rfl (by show (3 : Int) ≠ 5; decide)
  · exact h.set _ _ _ rfl (by show (3 : Int) ≠ 5; decide)
theorem OutT.bad {S : St} {d : List Int} {n : Nat} {E : Em} {k : Int} (hk : k ≠ 0) : OutT S d n { E with err := k } := Or.inl hk
theorem OutT.life {S : St} {d : List Int} {n : Nat} {E : Em} (h : OutT S d n E) (p v : Int) : OutT S d (n + 1) (E.life p v) := by
  unfold Em.life
  split
  · exact h.mono (Nat.le_succ n)
  split
  · exact OutT.bad (by decide)
  · exact h.setPl _ _ _
theorem OutT.mana {S : St} {d : List Int} {n : Nat} {E : Em} (h : OutT S d n E) (p l v : Int) : OutT S d (n + 1) (E.mana p l v) := by
  unfold Em.mana
  split
  · exact h.mono (Nat.le_succ n)
  split
  · exact OutT.bad (by decide)
  split
  · exact OutT.bad (by decide)
  · exact h.setPl _ _ _
theorem OutT.make {S : St} {d : List Int} {n : Nat} {E : Em} (h : OutT S d n E) (c o k : Int) : OutT S d (n + 1) (E.make c o k) := by
  unfold Em.make
  split
  · exact h.mono (Nat.le_succ n)
  · exact h.do1 _ rfl (by show (0 : Int) ≠ 5; decide)
theorem OutT.pick {S : St} {d : List Int} {n : Nat} {E : Em} (h : OutT S d n E) (k : Int) : OutT S d (n + 1) (E.pick k) := by
  unfold Em.pick
  split
  · exact h.mono (Nat.le_succ n)
  · exact (h.fail _).setGame _ _
theorem OutT.show {S : St} {d : List Int} {n : Nat} {E : Em} (h : OutT S d n E) (id p : Int) : OutT S d (n + 1) (E.show id p) := by
  unfold Em.show
  split
  · exact h.mono (Nat.le_succ n)
  · refine (h.dos (showEv E.now id p) (fun e he => ?_)).mono (by have := showEv_one E.now id p; omega)
    unfold showEv at he
    split at he
    · cases he
    · split at he
      · cases he
      · rw [List.mem_singleton] at he; subst he; exact ⟨rfl, by show (2 : Int) ≠ 5; decide⟩
theorem OutT.pend {S : St} {d : List Int} {n : Nat} {E : Em} (h : OutT S d n E) (l : List (List Int)) (hl : l.length ≤ n) : OutT S d n { E with pend := l } := h.imp id (fun h => ⟨h.err, h.draws, hl, h.run, h.evs, h.len⟩)
theorem OutT.await {S : St} {d : List Int} {n : Nat} {E : Em} (h : OutT S d n E) (id wh ctl : Int) : OutT S d (n + 2) (E.await id wh ctl) := by
  have h2 := h.mono (show n ≤ n + 2 by omega)
  unfold Em.await
  split
  · rcases h with h | h
    · exact Or.inl h
    · refine h2.pend _ ?_
      rw [List.length_append, List.length_map]
      have := usesN_two (gt (rowAt E.now.objs id.toNat) 0).toNat wh
      have := h.pend
      omega
  · exact h2.fail _
theorem OutT.rest {S : St} {d : List Int} {n : Nat} {E : Em} (h : OutT S d n E) (id : Int) : OutT S d (n + 9) (E.rest id) := by
  unfold Em.rest restL
  exact ((((((((h.setObj _ _ _).setObj _ _ _).setObj _ _ _).setObj _ _ _).setObj _ _ _).setObj _ _ _).setObj _ _ _).setObj _ _ _).setObj _ _ _
theorem OutT.put {S : St} {d : List Int} {n : Nat} {E : Em} (h : OutT S d n E) (id base : Int) : OutT S d (n + 16) (E.put id base) := by
  unfold Em.put
  split
  · exact h.mono (by omega)
  split
  · exact OutT.bad (by decide)
  split
  · exact OutT.bad (by decide)
  · have h1 := h.do1 (E.now.putEv id (homeN (rowAt E.now.objs id.toNat) base)) rfl (by show (1 : Int) ≠ 5; decide)
    have h2 : OutT S d (n + 1 + 13) ((E.do1 (E.now.putEv id (homeN (rowAt E.now.objs id.toNat) base))).put2 id (gt (rowAt E.now.objs id.toNat) 3) (homeN (rowAt E.now.objs id.toNat) base) (gt (rowAt E.now.objs id.toNat) 1)) := by
      generalize E.do1 (E.now.putEv id (homeN (rowAt E.now.objs id.toNat) base)) = E1 at *
      generalize homeN (rowAt E.now.objs id.toNat) base = dz
      generalize gt (rowAt E.now.objs id.toNat) 3 = fr
      generalize gt (rowAt E.now.objs id.toNat) 1 = ow
      unfold Em.put2
      have a1 : OutT S d (n + 1 + 9) (if dz ≠ 8 then E1.rest id else E1) := by
        split
        · exact h1.rest id
        · exact h1.mono (by omega)
      generalize (if dz ≠ 8 then E1.rest id else E1) = E2 at *
      have a2 : OutT S d (n + 1 + 10) (if dz < 8 then E2.setObj id 2 ow else E2) := by
        split
        · exact a1.setObj _ _ _
        · exact a1.mono (by omega)
      simp only
      generalize (if dz < 8 then E2.setObj id 2 ow else E2) = E3 at *
      have a3 : OutT S d (n + 1 + 11) (if dz ≠ 9 then E3.setObj id 16 0 else E3) := by
        split
        · exact a2.setObj _ _ _
        · exact a2.mono (by omega)
      generalize (if dz ≠ 9 then E3.setObj id 16 0 else E3) = E4 at *
      have a4 : OutT S d (n + 1 + 12) (if dz = 8 ∧ fr ≠ dz then E4.setObj id 5 1 else E4) := by
        split
        · exact a3.setObj _ _ _
        · exact a3.mono (by omega)
      exact a4.show _ _
    simp only
    generalize (E.do1 (E.now.putEv id (homeN (rowAt E.now.objs id.toNat) base))).put2 id (gt (rowAt E.now.objs id.toNat) 3) (homeN (rowAt E.now.objs id.toNat) base) (gt (rowAt E.now.objs id.toNat) 1) = E6 at *
    unfold Em.put3
    split
    · exact h2.mono (by omega)
    split
    · exact h2.await _ _ _
    split
    · exact h2.await _ _ _
    · exact h2.mono (by omega)
theorem OutT.draw {S : St} {d : List Int} {n : Nat} {E : Em} (h : OutT S d n E) (p : Int) : OutT S d (n + 16) (E.draw p) := by
  unfold Em.draw
  split
  · exact h.mono (by omega)
  split
  · exact OutT.bad (by decide)
  split
  · exact (h.setPl _ _ _).mono (by omega)
  · exact h.put _ _
theorem OutT.shufTo {S : St} {d : List Int} {n : Nat} {E : Em} (h : OutT S d n E) (z : Nat) (l : List Int) : ∀ k, OutT S d (n + k) (E.shufTo z l k)
  | 0 => h
  | k + 1 => by
    have h1 := OutT.shufTo h z l k
    show OutT S d (n + (k + 1)) ((E.shufTo z l k).shufAt z (gt l k) k)
    unfold Em.shufAt
    split
    · exact h1.mono (by omega)
    · exact h1.do1 _ rfl (by show (1 : Int) ≠ 5; decide)
theorem OutT.hideTo {S : St} {d : List Int} {n : Nat} {E : Em} (h : OutT S d n E) (l : List Int) : ∀ k, OutT S d (n + k) (E.hideTo l k)
  | 0 => h
  | k + 1 => by
    have h1 := OutT.hideTo h l k
    refine (h1.dos (hideEv (E.hideTo l k).now (gt l k) 3) (fun e he => ?_)).mono ?_
    · unfold Go.Proofs.YtkbghjfagnjpoaaGreatDoor.hideEv at he
      split at he
      · cases he
      · split at he
        · cases he
        · rw [List.mem_singleton] at he; subst he; exact ⟨rfl, by show (2 : Int) ≠ 5; decide⟩
    · have : (hideEv (E.hideTo l k).now (gt l k) 3).length ≤ 1 := by unfold Go.Proofs.YtkbghjfagnjpoaaGreatDoor.hideEv; (repeat' split) <;> simp
      omega
theorem OutT.shuffle {S : St} {d : List Int} {n : Nat} {E : Em} (h : OutT S d n E) (p : Int) : OutT S d (n + 1 + 2 * (E.shufD p.toNat).length) (E.shuffle p) := by
  have h1 : OutT S d (n + 1) (E.shuf0 p.toNat) := (h.fail _).setGame _ _
  unfold Em.shuffle
  split
  · exact h.mono (by omega)
  split
  · exact OutT.bad (by decide)
  split
  · exact h1.mono (by omega)
  · exact ((h1.shufTo _ _ _).hideTo _ _).mono (by omega)
end Go.Proofs.YtkbghjfagnjpoaaGreatDoor
