/-
  All hits, done: the walk of Strike.
  The end of a fight; hits and the end where there is an error or no emitter.
-/
import Derived.Test.YtnjdkkgkaafdbaaGreatDoorMCb3
import Derived.Test.YtnjdkkgkaafdbaaGreatDoorMRef17
import Derived.Test.YtnjdkkgkaafdbaaGreatDoorMEmNew
namespace Go.Proofs.YtnjdkkgkaafdbaaGreatDoor
open Go Go.RowKit Go.Shelf

/-- How far a shape's numbers can have come. -/
theorem evStep_in {S : St} {d : Nat} {k : Int} {e : Evl} {x : StN} (F : StFine S x) (hk : 0 ≤ k ∧ k ≤ 1000000) (h1 : -1000 ≤ e.p ∧ e.p ≤ 1000) (h2 : -4294967296 - 1000 * k ≤ e.mp ∧ e.mp ≤ 4294967296 + 1000 * k) :
    (-1000 ≤ (evStep S d e x).p ∧ (evStep S d e x).p ≤ 1000) ∧ (-4294967296 - 1000 * (k + 1) ≤ (evStep S d e x).mp ∧ (evStep S d e x).mp ≤ 4294967296 + 1000 * (k + 1)) := by
  have hn := F.n
  unfold evStep
  split
  · exact ⟨h1, by omega⟩
  split
  · exact ⟨by show -1000 ≤ x.n ∧ x.n ≤ 1000; omega, by show _ ≤ e.mp ∧ e.mp ≤ _; omega⟩
  split
  · refine ⟨h1, ?_⟩
    show _ ≤ wrap64 (e.mp + x.n) ∧ wrap64 (e.mp + x.n) ≤ _
    unfold wrap64; omega
  split
  · exact ⟨h1, by show _ ≤ e.mp ∧ e.mp ≤ _; omega⟩
  split
  · exact ⟨h1, by show _ ≤ e.mp ∧ e.mp ≤ _; omega⟩
  · exact ⟨h1, by omega⟩
theorem evAll_in {S : St} {d : Nat} : ∀ (l : List StN) (k : Int) (e : Evl), (∀ x ∈ l, StFine S x) → 0 ≤ k → k + l.length ≤ 1000000 → (-1000 ≤ e.p ∧ e.p ≤ 1000) → (-4294967296 - 1000 * k ≤ e.mp ∧ e.mp ≤ 4294967296 + 1000 * k) →
    (-1000 ≤ (l.foldl (evStep S d) e).p ∧ (l.foldl (evStep S d) e).p ≤ 1000) ∧ (-5294967296 ≤ (l.foldl (evStep S d) e).mp ∧ (l.foldl (evStep S d) e).mp ≤ 5294967296)
  | [], k, e, _, h0, hk, h1, h2 => ⟨h1, by simp only [List.foldl_nil]; simp at hk; omega⟩
  | x :: l, k, e, hl, h0, hk, h1, h2 => by
    simp only [List.length_cons] at hk
    obtain ⟨a, b⟩ := evStep_in (d := d) (hl x (by simp)) (by omega) h1 h2
    exact evAll_in l (k + 1) _ (fun y hy => hl y (by simp [hy])) (by omega) (by omega) a b
theorem power_le {S : St} (h : Right S) {a : Nat} (ha : a < S.objs.length) : powerN S a ≤ 1099511627776 := by
  have hl := h.many
  have h8 := h.zon.len_le (z := 8) (by decide)
  have hst := staticsN_len S
  obtain ⟨⟨o1, o2⟩, ⟨o3, o4⟩, _⟩ := h.o7 ha
  have hc := h.card ha
  obtain ⟨_, _, s3, s4, _⟩ := card_says (gt (rowAt S.objs a) 0).toNat (by omega)
  have s3' : -100 ≤ (kindN S a).pw := s3
  have s4' : (kindN S a).pw ≤ 100 := s4
  obtain ⟨q1, q2⟩ := evAll_in (d := a) (staticsN S) 0 (ev0 S a) (statics_fine h) (by omega) (by omega) (by show -1000 ≤ (kindN S a).pw ∧ (kindN S a).pw ≤ 1000; omega) (by show _ ≤ gt (rowAt S.objs a) 7 + gt (rowAt S.objs a) 8 ∧ gt (rowAt S.objs a) 7 + gt (rowAt S.objs a) 8 ≤ _; omega)
  have e : gt (shapeN S a) 0 = wrap64 ((evN S a).p + (evN S a).mp) := rfl
  have q1' : -1000 ≤ (evN S a).p ∧ (evN S a).p ≤ 1000 := q1
  have q2' : -5294967296 ≤ (evN S a).mp ∧ (evN S a).mp ≤ 5294967296 := q2
  unfold powerN
  split
  · rw [Int.toNat_natCast, e]; unfold wrap64; omega
  · omega
/-- Each hit is one of a right state. -/
theorem hits_in {S : St} (h : Right S) {r : List Int} (hr : r ∈ HitsN S) : ∃ (d : Nat) (t n : Int), r = [(d : Int), t, n] ∧ HitIn S d t n := by
  obtain ⟨h1, h2⟩ := List.mem_filter.1 hr
  obtain ⟨aa, ha, h3⟩ := List.mem_flatMap.1 h1
  have hca := attacks_creature (attackers_in ha)
  obtain ⟨c1, c2, _, _⟩ := creatureB_in hca
  obtain ⟨a, rfl⟩ := Int.eq_ofNat_of_zero_le c1
  have hal : a < S.objs.length := by omega
  have hpa := power_le h hal
  have nz : ∀ x y z : Int, nzB [x, y, z] = true → z ≠ 0 := fun x y z hz e => by
    subst e
    have : nzB [x, y, 0] = false := by show (!((0 : Int) == 0)) = false; simp
    rw [this] at hz; cases hz
  unfold hitsN at h3
  split at h3
  · obtain rfl := List.mem_singleton.1 h3
    have := nz _ _ _ h2
    exact ⟨a, _, _, rfl, hca, by have := (powerN_range S a).1; omega, hpa, .inl rfl⟩
  · simp only [List.mem_append] at h3
    rcases h3 with (h3 | h3) | h3
    · have key : ∀ k, k ≤ (blockersN S a).length → r ∈ (hitTo S a k).2 → ∃ (d : Nat) (t n : Int), r = [(d : Int), t, n] ∧ HitIn S d t n := by
        intro k
        induction k with
        | zero => intro _ h; simp [hitTo] at h
        | succ k ih =>
          intro hk h4
          simp only [hitTo, List.mem_append, List.mem_singleton] at h4
          rcases h4 with h4 | rfl
          · exact ih (by omega) h4
          · have hne := nz _ _ _ h2
            have hg := hitTo_range S a k
            have ht := takeN_range S a k _ hg.1
            have hcb : creatureB S (gt (blockersN S a) k) = true := blockers_in (a := a) (by rw [gt_eq _ _ (by omega)]; exact List.getElem_mem _)
            obtain ⟨b1, _, _, _⟩ := creatureB_in hcb
            obtain ⟨e, he⟩ := Int.eq_ofNat_of_zero_le b1
            exact ⟨a, _, _, rfl, hca, by omega, by omega, .inr ⟨e, by rw [he], by rw [← he]; exact hcb⟩⟩
      exact key _ (Nat.le_refl _) h3
    · split at h3
      · obtain rfl := List.mem_singleton.1 h3
        have hne := nz _ _ _ h2
        have hg := hitTo_range S a (blockersN S a).length
        exact ⟨a, _, _, rfl, hca, by omega, by omega, .inl rfl⟩
      · simp at h3
    · obtain ⟨bb, hb, rfl⟩ := List.mem_map.1 h3
      have hcb := blockers_in (List.mem_of_mem_take hb)
      obtain ⟨b1, b2, _, _⟩ := creatureB_in hcb
      obtain ⟨b, rfl⟩ := Int.eq_ofNat_of_zero_le b1
      have hne := nz _ _ _ h2
      exact ⟨b, _, _, rfl, hcb, by have := (powerN_range S b).1; omega, power_le h (by omega), .inr ⟨a, rfl, hca⟩⟩
/-- The first hits, done. -/
def Em.strikes (E : Em) (S : St) (rows : List (List Int)) : Em := rows.foldl (fun E r => E.strike S (gt r 0).toNat (gt r 1) (gt r 2)) E
theorem strikes_succ (E : Em) (S : St) (rows : List (List Int)) (k : Nat) (h : k < rows.length) : E.strikes S (rows.take (k + 1)) = (E.strikes S (rows.take k)).strike S (gt (rowAt rows k) 0).toNat (gt (rowAt rows k) 1) (gt (rowAt rows k) 2) := by
  have e : rows.take (k + 1) = rows.take k ++ [rowAt rows k] := by
    rw [List.take_succ_eq_append_getElem h, rowAt, List.getD_eq_getElem?_getD, List.getElem?_eq_getElem h]; rfl
  unfold Em.strikes
  rw [e, List.foldl_append]
  rfl
theorem Fi.strikes {S : St} {E : Em} (hS : Right S) (h : Fi S 0 E) (hc : 2 * (HitsN S).length ≤ 65536) : ∀ k, k ≤ (HitsN S).length → Fi S (2 * k) (E.strikes S ((HitsN S).take k))
  | 0, _ => h
  | k + 1, hk => by
    rw [strikes_succ E S _ k (by omega)]
    obtain ⟨d, t, n, hr, H⟩ := hits_in hS (r := rowAt (HitsN S) k) (rowAt_in _ _ (by omega))
    rw [hr]
    exact Fi.strike hS (Fi.strikes hS h hc k (by omega)) (by omega) H
theorem strike_any (w : World) (b : Nat) (own : Nat → Prop) (E : Em) (R : Emt w b own E) (S : St) (V : SV) (D : Side w own S V) (m : Nat) (F : Fi S m E) (hm : m + 2 ≤ 65536) (d : Nat) (t n : Int) (H : HitIn S d t n) :
    Calls Tryz.prog 48 #[.pointer (some ⟨b, 0, none⟩), .agg (stA V S.num), .agg (cellsOf [(d : Int), t, n])] w fun r w' => r = .returned (.tuple #[]) ∧ EPost w b own (E.strike S d t n) w' := by
  rcases H.at' with rfl | ⟨e, rfl, he⟩
  · exact strike_foe w b own E R S V D m F hm d n H
  · exact strike_at w b own E R S V D m F hm d e n H he
set_option maxRecDepth 100000 in
set_option maxHeartbeats 4000000 in
/-- All hits of a right state. -/
theorem strikeAll_good (w : World) (b : Nat) (own : Nat → Prop) (E : Em) (R : Emt w b own E) (GL : Glob w) (hv : ∀ k, (k = 0 ∨ k = 1 ∨ k = 2) → ¬ own k) (F : Fi E.now 0 E) (hl : (E.now.list 8).length ≤ 1000) (hc : 2 * (HitsN E.now).length ≤ 65536) :
    Calls Tryz.prog 17 #[.pointer (some ⟨b, 0, none⟩)] w fun r w' => r = .returned (.tuple #[]) ∧ EPost w b own (E.strikes E.now (HitsN E.now)) w' := by
  have hown := R.lt
  have HSt := Lib.hid (fun W (g : Grow w W) => by have := estate_any W b own E (R.grow g) F.small; rw [show E.state = E.now from if_neg (by rw [F.err]; simp)] at this; exact this)
  have HF := Lib.hid F
  have HR := Lib.hid R
  have HG := Lib.hid GL
  have HV := Lib.hid hv
  have HOL := Lib.hid hown
  clear R GL hv F hown
  go_enter Tryz.func17, Tryz.ntmps17
  go_wp2_with fail
  refine (HSt.out _ grI).mono ?_
  rintro e' w2 ⟨V, rfl, hR2, hU2, hG2⟩
  have hRS2 : RS E.now V w2 := ⟨hR2, HF.out.right, HF.out.small, HG.out.grow hG2⟩
  have HRS2 := Lib.hid hRS2
  have HHi := Lib.hid (fun W (g : Grow w2 W) => allHits_own E.now V W (HRS2.out.grow g) hl)
  have HD2 : Hid (Side w2 own E.now V) := ⟨hRS2, fun k hk => ⟨fun ho => by have := HOL.out k ho; have := (hU2 k hk).1; omega, (hU2 k hk).2⟩, HV.out⟩
  have HG2 := Lib.hid hG2
  clear hRS2 hR2 hU2 hG2
  go_wp2_with (go_at_call 8; refine (HHi.out _ grI).mono ?_; rintro e' w' ⟨sh, rfl, hRH, hOH, nH, rfl⟩; have hNH := hRH.len)
  (try simp only [drew_plus] at hRH); (try simp only [plus_plus] at hRH)
  have hb0 : ((w2.alloc (.cells (stA V E.now.num) 29)).plus nH).blk w2.heap.size = stA V E.now.num := by go_simp
  have hl0 : w2.heap.size < ((w2.alloc (.cells (stA V E.now.num) 29)).plus nH).heap.size := (by first | (go_simp; done) | (go_simp; omega) | (simp only [Sl.b]; go_simp; omega))
  have hG1 : Grow w2 ((w2.alloc (.cells (stA V E.now.num) 29)).plus nH) := grI
  have HD1 := Lib.hid (HD2.out.grow hG1)
  have HR1 := Lib.hid (HR.out.grow (HG2.out.trans hG1))
  have hs2 := HG2.out.size
  have hkn : (HitsN E.now).length ≤ 32768 := by omega
  have HRH := Lib.hid hRH
  have HOH := Lib.hid (show ∀ j, sh.owns j → ¬ own j from fun j hj ho => by have := HOL.out j ho; have := hOH j hj; rw [alloc_size'] at this; omega)
  have HB0 := Lib.hid hb0
  have HG1 := Lib.hid (HG2.out.trans hG1)
  clear hRH hOH hb0 hG1 HD2 HHi HRS2
  generalize (w2.alloc (.cells (stA V E.now.num) 29)).plus nH = W1 at *
  go_loopw [10] (fun i wr => ∃ (k : Nat) (own2 : Nat → Prop), k ≤ (HitsN E.now).length ∧ i = .int .i64 k ∧ Turn W1 b own (E.strikes E.now ((HitsN E.now).take k)) wr own2) (fun i _ => (HitsN E.now).length - (intOf i).toNat)
  case atStart => exact ⟨0, own, by omega, rfl, Turn.first HR1.out⟩
  case round =>
    obtain ⟨k, own2, hk, rfl, hT⟩ := hrel
    have HT := Lib.hid hT
    have hbw : wr.blk w2.heap.size = stA V E.now.num := by rw [hT.kept.blk _ hl0 (fun h => by have := HOL.out _ h; omega)]; exact HB0.out
    have hlw : w2.heap.size < wr.heap.size := by have := hT.kept.size; omega
    clear hT
    by_cases hlt : k < (HitsN E.now).length
    · obtain ⟨hb, hw, hsz, hsub, _⟩ := (HRH.out.kept HT.out.kept (fun hl ho => HOH.out _ (owns_ofR HRH.out hl) ho)).at (by omega) k hlt
      obtain ⟨d, t, n, hr, H⟩ := hits_in HF.out.right (r := rowAt (HitsN E.now) k) (rowAt_in _ _ hlt)
      have HS := Lib.hid (strikes_succ E E.now (HitsN E.now) k hlt)
      rw [hr] at hsub HS
      have hst := strike_any (wr.alloc (.cells (cellsOf [(d : Int), t, n]) 40)) b own2 _ (HT.out.em.grow grI) E.now V ((HD1.out.turn HT.out.kept (fun j hj => (HT.out.own j hj).imp id And.left)).grow grI) (2 * k) (HF.out.strikes HF.out.right hc k hk) (by omega) d t n H
      have HSt2 := Lib.hid hst
      clear hst hr hw H
      go_wp2_with fail
      refine HSt2.out.mono ?_
      rintro e' w4 ⟨rfl, hE⟩
      obtain ⟨own4, T4⟩ := HT.out.step grI hE
      have HT4 := Lib.hid T4
      clear hE T4 hbw hlw hb hsz hsub
      go_wp2_with fail
      go_roundw
      case rel => exact ⟨k + 1, own4, by omega, by go_num, by rw [HS.out]; exact HT4.out⟩
      case measure => simp [intOf]; omega
    · have hke : k = (HitsN E.now).length := by omega
      subst hke
      go_wp2_with fail
      go_end0
      have h2 := HT.out
      rw [List.take_length] at h2
      exact ⟨rfl, (h2.post HG1.out).more grI⟩
end Go.Proofs.YtnjdkkgkaafdbaaGreatDoor
namespace Go.Proofs.YtnjdkkgkaafdbaaGreatDoor
open Go Go.RowKit Go.Shelf

/-- A state's lists, in one value. -/
def listsV (V : SV) : Array Value := #[(V.list 0).val, (V.list 1).val, (V.list 2).val, (V.list 3).val, (V.list 4).val, (V.list 5).val, (V.list 6).val, (V.list 7).val, (V.list 8).val, (V.list 9).val, (V.list 10).val]
@[go_sem] theorem field_State1 (w : World) (V : SV) (num : Nat → Int) : (Instr.field 29 (.agg (stA V num)) 1).run Tryz.prog w = .ok (.agg (listsV V)) w := by kernel_rfl
@[go_sem] theorem index_lists8 (w : World) (V : SV) (q : IntKind) : (Instr.index 24 (.agg (listsV V)) (.int q 8)).run Tryz.prog w = .ok (V.list 8).val w := by
  obtain ⟨o, l⟩ := V
  unfold listsV
  dsimp only
  generalize l 8 = s
  cases s <;> kernel_rfl
/-- What stands on the field no longer attacks or blocks. -/
def Em.ends (E : Em) (l : List Int) : Em := l.foldl (fun E id => (E.setObj id 11 0).setObj id 12 0) E
theorem ends_succ (E : Em) (l : List Int) (k : Nat) (h : k < l.length) : E.ends (l.take (k + 1)) = ((E.ends (l.take k)).setObj (gt l k) 11 0).setObj (gt l k) 12 0 := by
  have e : l.take (k + 1) = l.take k ++ [gt l k] := by
    rw [List.take_succ_eq_append_getElem h, gt_eq _ _ h]
  unfold Em.ends
  rw [e, List.foldl_append]
  rfl
theorem Fi.ends {S : St} {m : Nat} {E : Em} (hS : Right S) (h : Fi S m E) (hc : m + 2 * (S.list 8).length ≤ 65536) : ∀ k, k ≤ (S.list 8).length → Fi S (m + 2 * k) (E.ends ((S.list 8).take k))
  | 0, _ => h
  | k + 1, hk => by
    rw [ends_succ E _ k (by omega)]
    obtain ⟨o0, o1, o3, _⟩ := hS.zon.ok 8 (by decide) (gt (S.list 8) k) (by rw [gt_eq _ _ (by omega)]; exact List.getElem_mem _)
    obtain ⟨d, hd⟩ := Int.eq_ofNat_of_zero_le o0
    rw [hd] at o1 o3 ⊢
    rw [Int.toNat_natCast] at o3
    have e1 : gt (objBounds S.objs.length) (11 * 2) = 0 ∧ gt (objBounds S.objs.length) (11 * 2 + 1) = 1 := ⟨rfl, rfl⟩
    have e2 : gt (objBounds S.objs.length) (12 * 2) = 0 ∧ gt (objBounds S.objs.length) (12 * 2 + 1) = S.objs.length := ⟨rfl, rfl⟩
    have h1 := ((Fi.ends hS h hc k (by omega)).set (by omega) d 11 0 (by omega) (by simpa using o3) (by omega) (by omega) (by omega)).1
    exact (h1.set (by omega) d 12 0 (by omega) (by simpa using o3) (by omega) (by omega) (by omega)).1.mono (by omega)
set_option maxRecDepth 100000 in
set_option maxHeartbeats 4000000 in
theorem end_good (w : World) (b : Nat) (own : Nat → Prop) (E : Em) (R : Emt w b own E) (S : St) (hS : Right S) (m : Nat) (F : Fi S m E) (hm : m + 2 * (S.list 8).length ≤ 65536) :
    Calls Tryz.prog 20 #[.pointer (some ⟨b, 0, none⟩)] w fun r w' => r = .returned (.tuple #[]) ∧ EPost w b own (E.ends (S.list 8)) w' := by
  have hown := R.lt
  have hl8 : (S.list 8).length ≤ 400 := Nat.le_trans (hS.zon.len_le (z := 8) (by decide)) hS.many
  have HSt := Lib.hid (fun W (g : Grow w W) => by have := estate_any W b own E (R.grow g) F.small; rw [show E.state = E.now from if_neg (by rw [F.err]; simp)] at this; exact this)
  have HF := Lib.hid F
  have HR := Lib.hid R
  have HOL := Lib.hid hown
  have HRt := Lib.hid hS
  clear R F hown hS
  go_enter Tryz.func20, Tryz.ntmps20
  go_wp2_with fail
  refine (HSt.out _ grI).mono ?_
  rintro e' w2 ⟨V, rfl, hR2, hU2, hG2⟩
  have hI := hR2.list 8 (by decide)
  rw [HF.out.list] at hI
  have hI8 := hI.len
  have HI := Lib.hid hI
  have HU := Lib.hid (show ∀ j, (V.list 8).owns j → ¬ own j from fun j hj ho => by have := HOL.out j ho; have := (hU2 j (Or.inr ⟨8, by decide, hj⟩)).1; omega)
  have HG2 := Lib.hid hG2
  have HR2 := Lib.hid (HR.out.grow hG2)
  clear hR2 hU2 hG2 hI
  go_wp2_with fail
  go_loopw [9] (fun i wr => ∃ (k : Nat) (own2 : Nat → Prop), k ≤ (S.list 8).length ∧ i = .int .i64 k ∧ Turn w2 b own (E.ends ((S.list 8).take k)) wr own2) (fun i _ => (S.list 8).length - (intOf i).toNat)
  case atStart => exact ⟨0, own, by omega, rfl, Turn.first HR2.out⟩
  case round =>
    obtain ⟨k, own2, hk, rfl, hT⟩ := hrel
    have HT := Lib.hid hT
    clear hT
    by_cases hlt : k < (S.list 8).length
    · obtain ⟨hlb, hlc⟩ := (HI.out.kept HT.out.kept (fun hl ho => HU.out _ (owns_of HI.out hl) ho)).at k hlt
      have HS := Lib.hid (ends_succ E (S.list 8) k hlt)
      have hFk := HF.out.ends HRt.out hm k hk
      have HSet := Lib.hid (fun W (g : Grow wr W) => esetObj_any W b own2 _ (HT.out.em.grow g) 65536 (hFk.ok (by omega)) (by omega) (gt (S.list 8) k) 11 0)
      have HK2 := Lib.hid ((hFk.ok (by omega)).setObj (gt (S.list 8) k) 11 0)
      generalize gt (S.list 8) k = id at *
      clear hFk
      go_wp2_with fail
      refine (HSet.out _ grI).mono ?_
      rintro e' w3 ⟨rfl, hE⟩
      obtain ⟨own3, T3⟩ := HT.out.step grI hE
      have HT3 := Lib.hid T3
      have HSet2 := Lib.hid (fun W (g : Grow w3 W) => esetObj_any W b own3 _ (HT3.out.em.grow g) 65537 HK2.out (by omega) id 12 0)
      clear hE T3 hlb hlc
      go_wp2_with fail
      refine (HSet2.out _ grI).mono ?_
      rintro e' w4 ⟨rfl, hE⟩
      obtain ⟨own4, T4⟩ := HT3.out.step grI hE
      have HT4 := Lib.hid T4
      clear hE T4
      go_wp2_with fail
      go_roundw
      case rel => exact ⟨k + 1, own4, by omega, by go_num, by rw [HS.out]; exact HT4.out⟩
      case measure => simp [intOf]; omega
    · have hke : k = (S.list 8).length := by omega
      subst hke
      go_wp2_with fail
      go_end0
      have h2 := HT.out
      rw [List.take_length] at h2
      exact ⟨rfl, (h2.post HG2.out).more grI⟩
theorem st0_right : Right St0 := (checkN_zero St0).1 (by decide +kernel)
set_option maxRecDepth 100000 in
theorem end_bad (w : World) (m : Value) (n : Int) (hn : n ≠ 0) (H : ErrsAt w m n) :
    Calls Tryz.prog 20 #[m] w fun r w' => r = .returned (.tuple #[]) ∧ Grow w w' := by
  have HSt := Lib.hid (fun W (g : Grow w W) => estate_bad W m n hn (H.grow g))
  have hz : (SV.zero.list 8).val = .slice none 0 0 := rfl
  have hzn : (SV.zero.list 8).n = 0 := rfl
  clear H hn
  go_enter Tryz.func20, Tryz.ntmps20
  go_wp2_with (go_at_call 30; refine (HSt.out _ grI).mono ?_; rintro e' w' ⟨rfl, nx, rfl⟩)
  go_loopw [9] (fun i wr => i = .int .i64 0 ∧ Grow w wr) (fun _ _ => 0)
  case atStart => exact ⟨rfl, grI⟩
  case round =>
    obtain ⟨rfl, x, rfl⟩ := hrel
    go_wp2_with fail
    go_end0
    exact ⟨rfl, grI⟩
set_option maxRecDepth 100000 in
theorem strikeAll_bad (w : World) (m : Value) (n : Int) (hn : n ≠ 0) (H : ErrsAt w m n) (GL : Glob w) :
    Calls Tryz.prog 17 #[m] w fun r w' => r = .returned (.tuple #[]) ∧ Grow w w' := by
  have HSt := Lib.hid (fun W (g : Grow w W) => estate_bad W m n hn (H.grow g))
  have HHi : Hid (∀ W, Grow w W → Calls Tryz.prog 8 #[.agg (stA SV.zero fun _ => 0)] W fun e w' => ∃ s : Sl, e = .returned s.val ∧ Rows' w' s 3 (HitsN St0) ∧ Grow W w') := fun W g => allHits_any St0 SV.zero W ⟨repSt_zero W, st0_right, ⟨by simp [St0], fun _ _ => by simp [St0]⟩, GL.grow g⟩ (by simp [St0])
  have h0 : (HitsN St0).length = 0 := rfl
  clear H hn GL
  go_enter Tryz.func17, Tryz.ntmps17
  go_wp2_with (first | (go_at_call 30; refine (HSt.out _ grI).mono ?_; rintro e' w' ⟨rfl, nx, rfl⟩) | (go_at_call 8; refine (HHi.out _ grI).mono ?_; rintro e' w' ⟨sh, rfl, hRH, nH, rfl⟩; have hsn : sh.n = 0 := hRH.len.trans h0; clear hRH))
  go_loopw [10] (fun i wr => i = .int .i64 0 ∧ Grow w wr) (fun _ _ => 0)
  case atStart => exact ⟨rfl, grI⟩
  case round =>
    obtain ⟨rfl, x, rfl⟩ := hrel
    go_wp2_with fail
    go_end0
    exact ⟨rfl, grI⟩
end Go.Proofs.YtnjdkkgkaafdbaaGreatDoor
