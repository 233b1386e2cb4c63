/-
  A fight, whole: what stays as it was, in plain Lean; all hits of an emitter that has set numbers before.
-/
import Derived.Test.YtnjdkkgkaafdbaaGreatDoorMDc4
import Derived.Test.YtnjdkkgkaafdbaaGreatDoorMCb4
namespace Go.Proofs.YtnjdkkgkaafdbaaGreatDoor
open Go Go.RowKit Go.Shelf

/-- A state that tells the same shapes. -/
structure Like (S T : St) : Prop where
  list : T.list = S.list
  len : T.objs.length = S.objs.length
  fld : ∀ i f, f = 0 ∨ f = 2 ∨ f = 3 ∨ f = 7 ∨ f = 8 ∨ f = 9 ∨ f = 10 → gt (rowAt T.objs i) f = gt (rowAt S.objs i) f
theorem Like.kind {S T : St} (h : Like S T) (d : Nat) : kindN T d = kindN S d := by unfold kindN; rw [h.fld d 0 (by simp)]
theorem Like.creature {S T : St} (h : Like S T) (id : Int) : creatureB T id = creatureB S id := by unfold creatureB; rw [h.len, h.fld _ 3 (by simp), h.kind]
theorem Like.stats {S T : St} (h : Like S T) (id : Int) : statsOf T id = statsOf S id := by
  unfold statsOf
  rw [h.kind]
  congr 1
  funext i
  unfold statOf
  rw [h.kind, h.fld _ 2 (by simp)]
theorem Like.statics {S T : St} (h : Like S T) : staticsN T = staticsN S := by
  unfold staticsN
  rw [h.list]
  congr 1
  funext id
  exact h.stats id
theorem Like.reaches {S T : St} (h : Like S T) (x : StN) (d : Nat) : reachesB T x d = reachesB S x d := by
  unfold reachesB
  rw [h.fld d 2 (by simp)]
theorem Like.ev {S T : St} (h : Like S T) (d : Nat) : evN T d = evN S d := by
  have e1 : evStep T d = evStep S d := by
    funext e x
    unfold evStep
    rw [h.reaches]
  have e2 : ev0 T d = ev0 S d := by
    unfold ev0
    rw [h.kind, h.fld d 7 (by simp), h.fld d 8 (by simp), h.fld d 9 (by simp)]
  unfold evN
  rw [h.statics, e1, e2]
theorem Like.has {S T : St} (h : Like S T) (id wd : Int) : hasB T id wd = hasB S id wd := by
  unfold hasB shapeN
  rw [h.creature, h.ev, h.fld _ 10 (by simp)]
theorem Fi.rebase {S : St} {m : Nat} {E : Em} (h : Fi S m E) : Fi E.now m E := ⟨h.err, h.right, h.wid, rfl, rfl, fun _ => rfl, h.evs, h.pend⟩
/-! ### What declaring attackers sets -/
theorem fightOne_rows {S : St} {m : Nat} {E : Em} (h : Fi S m E) (hm : m + 2 ≤ 65536) {d : Nat} (hc : creatureB S d = true) :
    ∀ i g, gt (rowAt (E.fightOne S d).now.objs i) g = if i = d ∧ g = 11 then 1 else if i = d ∧ g = 4 ∧ hasB S d 8 = false then 1 else gt (rowAt E.now.objs i) g := by
  obtain ⟨c1, c2, c3, _⟩ := creatureB_in hc
  rw [Int.toNat_natCast] at c3
  have e1 : gt (objBounds S.objs.length) (11 * 2) = 0 ∧ gt (objBounds S.objs.length) (11 * 2 + 1) = 1 := ⟨rfl, rfl⟩
  have e2 : gt (objBounds S.objs.length) (4 * 2) = 0 ∧ gt (objBounds S.objs.length) (4 * 2 + 1) = 1 := ⟨rfl, rfl⟩
  have h1 : Fi S (m + 1) (E.setObj (d : Int) 11 1) := (h.set (by omega) d 11 1 (by omega) c3 (by omega) (by omega) (by omega)).1
  have r1 : ∀ i g, gt (rowAt (E.setObj (d : Int) 11 1).now.objs i) g = if i = d ∧ g = 11 then 1 else gt (rowAt E.now.objs i) g := (h.set (by omega) d 11 1 (by omega) c3 (by omega) (by omega) (by omega)).2.1
  have r2 : ∀ i g, gt (rowAt ((E.setObj (d : Int) 11 1).setObj (d : Int) 4 1).now.objs i) g = if i = d ∧ g = 4 then 1 else gt (rowAt (E.setObj (d : Int) 11 1).now.objs i) g := (h1.set (by omega) d 4 1 (by omega) c3 (by omega) (by omega) (by omega)).2.1
  intro i g
  unfold Em.fightOne
  cases h8 : hasB S d 8 with
  | true => rw [if_pos rfl, r1]; simp
  | false =>
    rw [if_neg (by simp), r2, r1]
    by_cases a : i = d ∧ g = 11
    · rw [if_pos a, if_neg (by omega), if_pos a]
    · rw [if_neg a, if_neg a]; simp
theorem fights_rows {S : St} {E : Em} (h : Fi S 0 E) (hnow : E.now = S) {l : List Int} (hl : 2 * l.length ≤ 65536) (hz : fightTo S l l.length = 0) : ∀ k, k ≤ l.length →
    (∀ i f, f ≠ 4 → f ≠ 11 → gt (rowAt (E.fights S (l.take k)).now.objs i) f = gt (rowAt S.objs i) f) ∧ ∀ j, j < k → gt (rowAt (E.fights S (l.take k)).now.objs (gt l j).toNat) 11 = 1 ∧ (hasB S (gt l j) 8 = true ∨ gt (rowAt (E.fights S (l.take k)).now.objs (gt l j).toNat) 4 = 1)
  | 0, _ => ⟨fun i f _ _ => by rw [List.take_zero]; show gt (rowAt E.now.objs i) f = _; rw [hnow], fun j hj => absurd hj (by omega)⟩
  | k + 1, hk => by
    obtain ⟨i1, i2⟩ := fights_rows h hnow hl hz k (by omega)
    have hc := fightTo_creature hz k (by omega)
    obtain ⟨c1, _⟩ := creatureB_in hc
    obtain ⟨d, hd⟩ := Int.eq_ofNat_of_zero_le c1
    rw [hd] at hc
    have R := fightOne_rows (h.fights hl hz k (by omega)) (by omega) hc
    rw [fights_succ E S l k (by omega), hd]
    refine ⟨fun i f h4 h11 => ?_, fun j hj => ?_⟩
    · rw [R, if_neg (by omega), if_neg (by omega)]; exact i1 i f h4 h11
    · by_cases e : j = k
      · subst e
        rw [hd, Int.toNat_natCast]
        refine ⟨by rw [R, if_pos ⟨rfl, rfl⟩], ?_⟩
        cases h8 : hasB S (d : Int) 8 with
        | true => exact .inl rfl
        | false => exact .inr (by rw [R, if_neg (by omega), if_pos ⟨rfl, rfl, h8⟩])
      · obtain ⟨j1, j2⟩ := i2 j (by omega)
        refine ⟨?_, ?_⟩
        · rw [R]
          split
          · rfl
          · rw [if_neg (by omega)]; exact j1
        · rcases j2 with j2 | j2
          · exact .inl j2
          · refine .inr ?_
            rw [R, if_neg (by omega)]
            split
            · rfl
            · exact j2
/-! ### What the end sets -/
theorem ends_rows {S : St} {m : Nat} {E : Em} (hS : Right S) (h : Fi S m E) (hc : m + 2 * (S.list 8).length ≤ 65536) : ∀ k, k ≤ (S.list 8).length → ∀ j, j < k → gt (rowAt (E.ends ((S.list 8).take k)).now.objs (gt (S.list 8) j).toNat) 11 = 0
  | 0, _, j, hj => absurd hj (by omega)
  | k + 1, hk, j, hj => by
    have hFk := h.ends hS hc k (by omega)
    have ih := ends_rows hS h hc k (by omega)
    obtain ⟨o0, o1, o3, _⟩ := hS.zon.ok 8 (by decide) (gt (S.list 8) k) (by rw [gt_eq _ _ (by omega)]; exact List.getElem_mem _)
    obtain ⟨d, hd⟩ := Int.eq_ofNat_of_zero_le o0
    rw [ends_succ E _ k (by omega), hd]
    rw [hd] at o1 o3
    rw [Int.toNat_natCast] at o3
    have e1 : gt (objBounds S.objs.length) (11 * 2) = 0 ∧ gt (objBounds S.objs.length) (11 * 2 + 1) = 1 := ⟨rfl, rfl⟩
    have e2 : gt (objBounds S.objs.length) (12 * 2) = 0 ∧ gt (objBounds S.objs.length) (12 * 2 + 1) = S.objs.length := ⟨rfl, rfl⟩
    have h1 : Fi S (m + 2 * k + 1) ((E.ends ((S.list 8).take k)).setObj (d : Int) 11 0) := (hFk.set (by omega) d 11 0 (by omega) (by simpa using o3) (by omega) (by omega) (by omega)).1
    have r1 : ∀ i g, gt (rowAt ((E.ends ((S.list 8).take k)).setObj (d : Int) 11 0).now.objs i) g = if i = d ∧ g = 11 then 0 else gt (rowAt (E.ends ((S.list 8).take k)).now.objs i) g := (hFk.set (by omega) d 11 0 (by omega) (by simpa using o3) (by omega) (by omega) (by omega)).2.1
    have r2 : ∀ i g, gt (rowAt (((E.ends ((S.list 8).take k)).setObj (d : Int) 11 0).setObj (d : Int) 12 0).now.objs i) g = if i = d ∧ g = 12 then 0 else gt (rowAt ((E.ends ((S.list 8).take k)).setObj (d : Int) 11 0).now.objs i) g := (h1.set (by omega) d 12 0 (by omega) (by simpa using o3) (by omega) (by omega) (by omega)).2.1
    rw [r2, if_neg (by omega), r1]
    by_cases e : j = k
    · rw [if_pos ⟨by rw [e, hd, Int.toNat_natCast], rfl⟩]
    · split
      · rfl
      · exact ih j (by omega)
/-- Behind the end nobody attacks. -/
theorem ends_none {S : St} {m : Nat} {E : Em} (hS : Right S) (h : Fi S m E) (hc : m + 2 * (S.list 8).length ≤ 65536) : attackersN (E.ends (S.list 8)).now = [] ∧ HitsN (E.ends (S.list 8)).now = [] := by
  have hF := h.ends hS hc (S.list 8).length (Nat.le_refl _)
  have hr := ends_rows hS h hc (S.list 8).length (Nat.le_refl _)
  rw [List.take_length] at hF hr
  have ha : attackersN (E.ends (S.list 8)).now = [] := by
    unfold attackersN
    rw [List.filter_eq_nil_iff]
    intro id hid
    rw [hF.list] at hid
    obtain ⟨j, hj, rfl⟩ := List.getElem_of_mem hid
    have := hr j hj
    rw [gt_eq _ _ hj] at this
    unfold attacksB
    rw [this]
    simp
  refine ⟨ha, ?_⟩
  have : rawN (E.ends (S.list 8)).now = [] := by
    unfold rawN
    rw [ha]; rfl
  unfold HitsN
  rw [this]; rfl
/-! ### All hits -/
theorem Fi.strikesM {S : St} {m : Nat} {E : Em} (hS : Right S) (h : Fi S m E) (hc : m + 2 * (HitsN S).length ≤ 65536) : ∀ k, k ≤ (HitsN S).length → Fi S (m + 2 * k) (E.strikes S ((HitsN S).take k))
  | 0, _ => h
  | k + 1, hk => by
    rw [strikes_succ E S _ k (by omega)]
    obtain ⟨d, t, n, hr, H⟩ := hits_in hS (r := rowAt (HitsN S) k) (rowAt_in _ _ (by omega))
    rw [hr]
    exact (Fi.strike hS (Fi.strikesM hS h hc k (by omega)) (by omega) H)
set_option maxRecDepth 100000 in
set_option maxHeartbeats 4000000 in
/-- All hits of a right state, of an emitter that has set numbers before. -/
theorem strikeAll_from (w : World) (b : Nat) (own : Nat → Prop) (E : Em) (R : Emt w b own E) (GL : Glob w) (hv : ∀ k, (k = 0 ∨ k = 1 ∨ k = 2) → ¬ own k) (m0 : Nat) (F : Fi E.now m0 E) (hl : (E.now.list 8).length ≤ 1000) (hc : m0 + 2 * (HitsN E.now).length ≤ 65536) :
    Calls Tryz.prog 17 #[.pointer (some ⟨b, 0, none⟩)] w fun r w' => r = .returned (.tuple #[]) ∧ EPost w b own (E.strikes E.now (HitsN E.now)) w' := by
  have hown := R.lt
  have HSt := Lib.hid (fun W (g : Grow w W) => by have := estate_any W b own E (R.grow g) F.small; rw [show E.state = E.now from if_neg (by rw [F.err]; simp)] at this; exact this)
  have HF := Lib.hid F
  have HR := Lib.hid R
  have HG := Lib.hid GL
  have HV := Lib.hid hv
  have HOL := Lib.hid hown
  clear R GL hv F hown
  go_enter Tryz.func17, Tryz.ntmps17
  go_wp2_with fail
  refine (HSt.out _ grI).mono ?_
  rintro e' w2 ⟨V, rfl, hR2, hU2, hG2⟩
  have hRS2 : RS E.now V w2 := ⟨hR2, HF.out.right, HF.out.small, HG.out.grow hG2⟩
  have HRS2 := Lib.hid hRS2
  have HHi := Lib.hid (fun W (g : Grow w2 W) => allHits_own E.now V W (HRS2.out.grow g) hl)
  have HD2 : Hid (Side w2 own E.now V) := ⟨hRS2, fun k hk => ⟨fun ho => by have := HOL.out k ho; have := (hU2 k hk).1; omega, (hU2 k hk).2⟩, HV.out⟩
  have HG2 := Lib.hid hG2
  clear hRS2 hR2 hU2 hG2
  go_wp2_with (go_at_call 8; refine (HHi.out _ grI).mono ?_; rintro e' w' ⟨sh, rfl, hRH, hOH, nH, rfl⟩; have hNH := hRH.len)
  (try simp only [drew_plus] at hRH); (try simp only [plus_plus] at hRH)
  have hb0 : ((w2.alloc (.cells (stA V E.now.num) 29)).plus nH).blk w2.heap.size = stA V E.now.num := by go_simp
  have hl0 : w2.heap.size < ((w2.alloc (.cells (stA V E.now.num) 29)).plus nH).heap.size := (by first | (go_simp; done) | (go_simp; omega) | (simp only [Sl.b]; go_simp; omega))
  have hG1 : Grow w2 ((w2.alloc (.cells (stA V E.now.num) 29)).plus nH) := grI
  have HD1 := Lib.hid (HD2.out.grow hG1)
  have HR1 := Lib.hid (HR.out.grow (HG2.out.trans hG1))
  have hs2 := HG2.out.size
  have hkn : (HitsN E.now).length ≤ 32768 := by omega
  have HRH := Lib.hid hRH
  have HOH := Lib.hid (show ∀ j, sh.owns j → ¬ own j from fun j hj ho => by have := HOL.out j ho; have := hOH j hj; rw [alloc_size'] at this; omega)
  have HB0 := Lib.hid hb0
  have HG1 := Lib.hid (HG2.out.trans hG1)
  clear hRH hOH hb0 hG1 HD2 HHi HRS2
  generalize (w2.alloc (.cells (stA V E.now.num) 29)).plus nH = W1 at *
  go_loopw [10] (fun i wr => ∃ (k : Nat) (own2 : Nat → Prop), k ≤ (HitsN E.now).length ∧ i = .int .i64 k ∧ Turn W1 b own (E.strikes E.now ((HitsN E.now).take k)) wr own2) (fun i _ => (HitsN E.now).length - (intOf i).toNat)
  case atStart => exact ⟨0, own, by omega, rfl, Turn.first HR1.out⟩
  case round =>
    obtain ⟨k, own2, hk, rfl, hT⟩ := hrel
    have HT := Lib.hid hT
    have hbw : wr.blk w2.heap.size = stA V E.now.num := by rw [hT.kept.blk _ hl0 (fun h => by have := HOL.out _ h; omega)]; exact HB0.out
    have hlw : w2.heap.size < wr.heap.size := by have := hT.kept.size; omega
    clear hT
    by_cases hlt : k < (HitsN E.now).length
    · obtain ⟨hb, hw, hsz, hsub, _⟩ := (HRH.out.kept HT.out.kept (fun hl ho => HOH.out _ (owns_ofR HRH.out hl) ho)).at (by omega) k hlt
      obtain ⟨d, t, n, hr, H⟩ := hits_in HF.out.right (r := rowAt (HitsN E.now) k) (rowAt_in _ _ hlt)
      have HS := Lib.hid (strikes_succ E E.now (HitsN E.now) k hlt)
      rw [hr] at hsub HS
      have hst := strike_any (wr.alloc (.cells (cellsOf [(d : Int), t, n]) 40)) b own2 _ (HT.out.em.grow grI) E.now V ((HD1.out.turn HT.out.kept (fun j hj => (HT.out.own j hj).imp id And.left)).grow grI) (m0 + 2 * k) (HF.out.strikesM HF.out.right hc k hk) (by omega) d t n H
      have HSt2 := Lib.hid hst
      clear hst hr hw H
      go_wp2_with fail
      refine HSt2.out.mono ?_
      rintro e' w4 ⟨rfl, hE⟩
      obtain ⟨own4, T4⟩ := HT.out.step grI hE
      have HT4 := Lib.hid T4
      clear hE T4 hbw hlw hb hsz hsub
      go_wp2_with fail
      go_roundw
      case rel => exact ⟨k + 1, own4, by omega, by go_num, by rw [HS.out]; exact HT4.out⟩
      case measure => simp [intOf]; omega
    · have hke : k = (HitsN E.now).length := by omega
      subst hke
      go_wp2_with fail
      go_end0
      have h2 := HT.out
      rw [List.take_length] at h2
      exact ⟨rfl, (h2.post HG1.out).more grI⟩
end Go.Proofs.YtnjdkkgkaafdbaaGreatDoor
