/-
  Declaring attackers: the program's must, whose and Fight.
-/
import Derived.Test.YtnjdkkgkaafdbaaGreatDoorMCb1
import Derived.Test.YtnjdkkgkaafdbaaGreatDoorMEmPl
import Derived.Test.YtnjdkkgkaafdbaaGreatDoorMSide
import Derived.Test.YtnjdkkgkaafdbaaGreatDoorMDel
import Derived.Test.YtnjdkkgkaafdbaaGreatDoorMEmNew
namespace Go.Proofs.YtnjdkkgkaafdbaaGreatDoor
open Go Go.RowKit Go.Shelf

/-! ### The plain law -/
/-- The first code that is one. -/
def firstOf (a b : Int) : Int := if a = 0 then b else a
theorem fail_z (E : Em) : E.fail 0 = E := by
  unfold Em.fail
  by_cases h : E.err = 0
  · rw [if_pos h, ← h]
  · rw [if_neg h]
theorem fail_fail (E : Em) (a b : Int) : (E.fail a).fail b = E.fail (firstOf a b) := by
  unfold firstOf
  by_cases ha : a = 0
  · rw [if_pos ha, ha, fail_z]
  · rw [if_neg ha]
    unfold Em.fail
    by_cases h : E.err = 0
    · rw [if_pos h, if_neg ha]
    · rw [if_neg h, if_neg h]
theorem fail_stays {E : Em} (h : E.err ≠ 0) (n : Int) : E.fail n = E := by unfold Em.fail; exact if_neg h
theorem fail_err {E : Em} (h : E.err = 0) (n : Int) : (E.fail n).err = n := by unfold Em.fail; rw [if_pos h]
theorem firstOf_assoc (a b c : Int) : firstOf (firstOf a b) c = firstOf a (firstOf b c) := by
  unfold firstOf
  by_cases ha : a = 0
  · rw [if_pos ha, if_pos ha]
  · rw [if_neg ha, if_neg ha, if_neg ha]
theorem firstOf_z {a b : Int} (h : firstOf a b = 0) : a = 0 ∧ b = 0 := by
  unfold firstOf at h
  split at h
  · exact ⟨by assumption, h⟩
  · exact absurd h (by assumption)
/-- What whose refuses. -/
def codeW (S : St) (id pl : Int) : Int := firstOf (if creatureB S id = true then 0 else 12) (if (!creatureB S id || fldN S id 2 == pl) = true then 0 else 9)
/-- What is refused of an attacker. -/
def codeF (S : St) (l : List Int) (i : Nat) : Int := firstOf (firstOf (codeW S (gt l i) (S.num 19)) (if (!decide (gt l i ∈ l.take i)) = true then 0 else 8)) (if mayB S (gt l i) = true then 0 else 6)
def fightTo (S : St) (l : List Int) : Nat → Int
  | 0 => 0
  | k + 1 => firstOf (fightTo S l k) (codeF S l k)
theorem codeW_z {S : St} {id pl : Int} (h : codeW S id pl = 0) : creatureB S id = true := by
  have := (firstOf_z h).1
  cases hc : creatureB S id with
  | true => rfl
  | false => rw [hc] at this; simp at this
theorem fightTo_z {S : St} {l : List Int} : ∀ {n : Nat}, fightTo S l n = 0 → ∀ k, k < n → codeF S l k = 0
  | 0, _, k, hk => absurd hk (by omega)
  | n + 1, h, k, hk => by
    obtain ⟨h1, h2⟩ := firstOf_z h
    by_cases e : k = n
    · rw [e]; exact h2
    · exact fightTo_z h1 k (by omega)
theorem fightTo_creature {S : St} {l : List Int} {n : Nat} (h : fightTo S l n = 0) (k : Nat) (hk : k < n) : creatureB S (gt l k) = true := codeW_z (firstOf_z (firstOf_z (fightTo_z h k hk)).1).1
/-- An attacker, declared. -/
def Em.fightOne (E : Em) (S : St) (id : Int) : Em := if hasB S id 8 = true then E.setObj id 11 1 else (E.setObj id 11 1).setObj id 4 1
def Em.fights (E : Em) (S : St) (l : List Int) : Em := l.foldl (fun E id => E.fightOne S id) E
theorem fights_succ (E : Em) (S : St) (l : List Int) (k : Nat) (h : k < l.length) : E.fights S (l.take (k + 1)) = (E.fights S (l.take k)).fightOne S (gt l k) := by
  have e : l.take (k + 1) = l.take k ++ [gt l k] := by
    rw [List.take_succ_eq_append_getElem h, gt_eq _ _ h]
  unfold Em.fights
  rw [e, List.foldl_append]
  rfl
/-- Attackers, declared. -/
def Em.fight (E : Em) (S : St) (l : List Int) : Em := if fightTo S l l.length = 0 then E.fights S l else E.fail (fightTo S l l.length)
theorem Fi.fightOne {S : St} {m : Nat} {E : Em} (h : Fi S m E) (hm : m + 2 ≤ 65536) {id : Int} (hc : creatureB S id = true) : Fi S (m + 2) (E.fightOne S id) := by
  obtain ⟨c1, c2, c3, _⟩ := creatureB_in hc
  obtain ⟨d, rfl⟩ := Int.eq_ofNat_of_zero_le c1
  rw [Int.toNat_natCast] at c3
  have e1 : gt (objBounds S.objs.length) (11 * 2) = 0 ∧ gt (objBounds S.objs.length) (11 * 2 + 1) = 1 := ⟨rfl, rfl⟩
  have e2 : gt (objBounds S.objs.length) (4 * 2) = 0 ∧ gt (objBounds S.objs.length) (4 * 2 + 1) = 1 := ⟨rfl, rfl⟩
  have h1 := (h.set (by omega) d 11 1 (by omega) c3 (by omega) (by omega) (by omega)).1
  unfold Em.fightOne
  split
  · exact h1.mono (by omega)
  · exact (h1.set (by omega) d 4 1 (by omega) c3 (by omega) (by omega) (by omega)).1
theorem Fi.fights {S : St} {E : Em} (h : Fi S 0 E) {l : List Int} (hl : 2 * l.length ≤ 65536) (hz : fightTo S l l.length = 0) : ∀ k, k ≤ l.length → Fi S (2 * k) (E.fights S (l.take k))
  | 0, _ => h
  | k + 1, hk => by
    rw [fights_succ E S l k (by omega)]
    exact (Fi.fights h hl hz k (by omega)).fightOne (by omega) (fightTo_creature hz k (by omega))
/-! ### The walks -/
@[go_sem] theorem slice_ints_pre (w : World) (s : Sl) (q : IntKind) (i : Int) (h0 : 0 ≤ i) (h1 : i ≤ s.c) : (Instr.slice 23 s.val none (some (.int q i)) none).run Tryz.prog w = .ok (s.pre i.toNat).val w :=
  run_slice_pre (k := 1) w Tryz.underlying23 (fun w => by kernel_rfl) s q i h0 h1
theorem Ints.pre {w : World} {s : Sl} {l : List Int} (h : Ints w s l) (k : Nat) (hk : k ≤ l.length) : Ints w (s.pre k) (l.take k) := by
  have hn := h.len
  have hc := h.cap
  cases s with
  | nil =>
    have : k = 0 := by simp [Sl.n] at hn; omega
    subst this
    exact ⟨rfl, Nat.le_refl _, fun i hi => by simp at hi⟩
  | mk b o n c =>
    simp only [Sl.n, Sl.c] at hn hc
    refine ⟨by simp [Sl.pre, Sl.n]; omega, by simp [Sl.pre, Sl.n, Sl.c]; omega, fun i hi => ?_⟩
    simp only [List.length_take] at hi
    have := h.cell i (by omega)
    simp only [Sl.pre, Sl.b, Sl.o] at this ⊢
    rw [this]
    congr 1
    simp only [gt, List.getD]
    rw [List.getElem?_take_of_lt (by omega)]
theorem cmust_yes (w : World) (m : Value) (k : Int) :
    Calls Tryz.prog 58 #[m, .bool true, .int .i64 k] w fun r w' => r = .returned (.tuple #[]) ∧ Grow w w' := by
  go_enter Tryz.func58, Tryz.ntmps58
  go_wp2_with fail
  go_end0
  exact ⟨rfl, grI⟩
theorem cmust_any (w : World) (b : Nat) (own : Nat → Prop) (E : Em) (R : Emt w b own E) (ok : Bool) (k : Int) (hk : k ≠ 0) :
    Calls Tryz.prog 58 #[.pointer (some ⟨b, 0, none⟩), .bool ok, .int .i64 k] w fun r w' => r = .returned (.tuple #[]) ∧ EPost w b own (E.fail (if ok = true then 0 else k)) w' := by
  cases ok with
  | true =>
    rw [if_pos rfl, fail_z]
    refine (cmust_yes w _ k).mono ?_
    rintro r w' ⟨rfl, g⟩
    exact ⟨rfl, .of_grow R g⟩
  | false =>
    rw [if_neg (by simp)]
    have HF := Lib.hid (fun W (g : Grow w W) => by have := fail_any W b own E (R.grow g) k; rw [errV_is hk] at this; exact this)
    clear R
    go_enter Tryz.func58, Tryz.ntmps58
    go_wp2_with fail
    refine (HF.out _ grI).mono ?_
    rintro e' w2 ⟨rfl, hE⟩
    have HE := Lib.hid (EPost.low grI hE : EPost w b own (E.fail k) w2)
    clear hE
    go_wp2_with fail
    go_end0
    exact ⟨rfl, HE.out.more grI⟩
set_option maxRecDepth 100000 in
set_option maxHeartbeats 2000000 in
theorem whose_any (w : World) (b : Nat) (own : Nat → Prop) (E : Em) (R : Emt w b own E) (S : St) (V : SV) (D : Side w own S V) (id pl : Int) :
    Calls Tryz.prog 57 #[.pointer (some ⟨b, 0, none⟩), .agg (stA V S.num), .int .i64 id, .int .i64 pl] w fun r w' => r = .returned (.tuple #[]) ∧ EPost w b own (E.fail (codeW S id pl)) w' := by
  have hown := R.lt
  have HI := Lib.hid (fun W (g : Grow w W) => is_any S V W (D.rs.grow g) id)
  have HW : Hid (E.fail (codeW S id pl) = (E.fail (if creatureB S id = true then 0 else 12)).fail (if (!creatureB S id || fldN S id 2 == pl) = true then 0 else 9)) := (fail_fail _ _ _).symm
  have HM := Lib.hid (fun W (g : Grow w W) => cmust_any W b own E (R.grow g) (creatureB S id) 12 (by decide))
  have HOL := Lib.hid hown
  have HD := Lib.hid D
  rw [HW.out]
  clear R HW hown D
  cases hc : creatureB S id with
  | false =>
    rw [hc] at HI HM
    rw [if_neg (by simp)] at HM ⊢
    rw [if_pos (by simp), fail_z]
    clear hc
    go_enter Tryz.func57, Tryz.ntmps57
    go_wp2_with (go_at_call 40; refine (HI.out _ grI).mono ?_; rintro e' w' ⟨rfl, nx, rfl⟩)
    refine (HM.out _ grI).mono ?_
    rintro e' w2 ⟨rfl, hE⟩
    have HE := Lib.hid (EPost.low grI hE : EPost w b own (E.fail 12) w2)
    have HY := Lib.hid (fun W => cmust_yes W (.pointer (some ⟨b, 0, none⟩)) 9)
    clear hE HI HM
    go_wp2_with (go_at_call 58; refine (HY.out _).mono ?_; rintro e' w' ⟨rfl, nx, rfl⟩)
    go_end0
    exact ⟨rfl, HE.out.more grI⟩
  | true =>
    obtain ⟨c1, c2, _, _⟩ := creatureB_in hc
    obtain ⟨d, rfl⟩ := Int.eq_ofNat_of_zero_le c1
    have hd : d < S.objs.length := by omega
    rw [hc] at HI HM
    rw [if_pos rfl, fail_z] at HM ⊢
    simp only [Bool.not_true, Bool.false_or]
    unfold fldN
    rw [Int.toNat_natCast]
    obtain ⟨z, hz⟩ : ∃ z : Int, (if (gt (rowAt S.objs d) 2 == pl) = true then (0 : Int) else 9) = z := ⟨_, rfl⟩
    rw [hz]
    have HZ := Lib.hid hz
    clear hc c1 c2 hz
    go_enter Tryz.func57, Tryz.ntmps57
    go_wp2_with (go_at_call 40; refine (HI.out _ grI).mono ?_; rintro e' w' ⟨rfl, nx, rfl⟩)
    refine (HM.out _ grI).mono ?_
    rintro e' w2 ⟨rfl, own2, R2, K2, O2⟩
    have hwl := K2.size
    simp only [plus_size, alloc_size'] at hwl
    have hg0 : Grow w ((w.alloc (.cells (stA V S.num) 29)).plus nx) := grI
    have hno : ∀ q, w.heap.size ≤ q → ¬ own q := fun q hq h => by have := HOL.out q h; omega
    have hq0 : w2.blk w.heap.size = stA V S.num := by rw [K2.blk _ (by go_simp) (hno _ (Nat.le_refl _))]; go_simp
    have hb0 : w.heap.size < w2.heap.size := by omega
    have D2 : Side w2 own2 S V := (HD.out.grow hg0).turn K2 (fun j hj => (O2 j hj).imp id And.left)
    have HFd := Lib.hid (fun W (g : Grow w2 W) => field_any S V W (D2.rs.grow g).rep d 2 hd (by decide))
    have HM2 := Lib.hid (fun W (g : Grow w2 W) ok => cmust_any W b own2 E (R2.grow g) ok 9 (by decide))
    have HK2 := Lib.hid (show Kept own w w2 from (hg0.kept own).trans K2 (fun _ _ h => h))
    have HO2 := Lib.hid (show ∀ j, own2 j → own j ∨ (w.heap.size ≤ j ∧ j < w2.heap.size) from fun j hj => (O2 j hj).imp id (fun h => ⟨Nat.le_trans hg0.size h.1, h.2⟩))
    clear R2 K2 O2 D2 hg0 hno HI HM
    go_wp2_with (go_at_call 41; refine (HFd.out _ grI).mono ?_; rintro e' w' ⟨rfl, nx, rfl⟩)
    refine (HM2.out _ grI _).mono ?_
    rintro e' w3 ⟨rfl, hE⟩
    rw [HZ.out] at hE
    have HE := Lib.hid (EPost.then HK2.out HO2.out (EPost.low grI hE))
    clear hE
    go_wp2_with fail
    go_end0
    exact ⟨rfl, HE.out.more grI⟩
/-- A right state in a block of one's own, and a list, that an emitter does not touch. -/
structure Base (w : World) (own : Nat → Prop) (S : St) (V : SV) (q : Nat) (s : Sl) (l : List Int) : Prop where
  side : Side w own S V
  blk : w.blk q = stA V S.num
  free : w.free q = true
  lt : q < w.heap.size
  no : ¬ own q
  ints : Ints w s l
  list : 0 < l.length → ¬ own s.b ∧ s.b < w.heap.size
theorem Base.turn {w w' : World} {own own' : Nat → Prop} {S : St} {V : SV} {q : Nat} {s : Sl} {l : List Int} (h : Base w own S V q s l) (k : Kept own w w') (o : ∀ j, own' j → own j ∨ w.heap.size ≤ j) : Base w' own' S V q s l := by
  have hs := k.size
  refine ⟨h.side.turn k o, by rw [k.blk _ h.lt h.no]; exact h.blk, by rw [k.free _ h.lt h.no]; exact h.free, by have := h.lt; omega, fun hq => ?_, h.ints.kept k (fun hl => (h.list hl).1), fun hl => ⟨fun hq => ?_, by have := (h.list hl).2; omega⟩⟩
  · rcases o q hq with h3 | h3
    · exact h.no h3
    · have := h.lt; omega
  · rcases o _ hq with h3 | h3
    · exact (h.list hl).1 h3
    · have := (h.list hl).2; omega
theorem Base.grow {w w' : World} {own : Nat → Prop} {S : St} {V : SV} {q : Nat} {s : Sl} {l : List Int} (h : Base w own S V q s l) (g : Grow w w') : Base w' own S V q s l := h.turn (g.kept own) (fun _ h => .inl h)
theorem Turn.base {W wk : World} {b q : Nat} {own ownk : Nat → Prop} {E : Em} {S : St} {V : SV} {s : Sl} {l : List Int} (h : Turn W b own E wk ownk) (B : Base W own S V q s l) : Base wk ownk S V q s l := B.turn h.kept (fun j hj => (h.own j hj).imp id And.left)
set_option maxRecDepth 100000 in
set_option maxHeartbeats 4000000 in
theorem fight_good (w : World) (b : Nat) (own : Nat → Prop) (E : Em) (R : Emt w b own E) (GL : Glob w) (hv : ∀ k, (k = 0 ∨ k = 1 ∨ k = 2) → ¬ own k) (F : Fi E.now 0 E) (s : Sl) (l : List Int) (hI : Ints w s l) (hs : 0 < l.length → ¬ own s.b) (hl : l.length ≤ 1000) :
    Calls Tryz.prog 22 #[.pointer (some ⟨b, 0, none⟩), s.val] w fun r w' => r = .returned (.tuple #[]) ∧ EPost w b own (E.fight E.now l) w' := by
  have hown := R.lt
  have hsn := hI.len
  have HSt := Lib.hid (fun W (g : Grow w W) => by have := estate_any W b own E (R.grow g) F.small; rw [show E.state = E.now from if_neg (by rw [F.err]; simp)] at this; exact this)
  have HF := Lib.hid F
  have HR := Lib.hid R
  have HG := Lib.hid GL
  have HV := Lib.hid hv
  have HOL := Lib.hid hown
  have HI := Lib.hid hI
  have HS := Lib.hid hs
  clear R GL hv F hown hI hs
  go_enter Tryz.func22, Tryz.ntmps22
  go_wp2_with fail
  refine (HSt.out _ grI).mono ?_
  rintro e' w2 ⟨V, rfl, hR2, hU2, hG2⟩
  have hRS2 : RS E.now V w2 := ⟨hR2, HF.out.right, HF.out.small, HG.out.grow hG2⟩
  have hb : Base (w2.alloc (.cells (stA V E.now.num) 29)) own E.now V w2.heap.size s l := by
    have hg : Grow w2 (w2.alloc (.cells (stA V E.now.num) 29)) := grI
    have hsz := hG2.size
    refine ⟨Side.grow ⟨hRS2, fun k hk => ⟨fun ho => by have := HOL.out k ho; have := (hU2 k hk).1; omega, (hU2 k hk).2⟩, HV.out⟩ hg, by go_simp, by go_simp, by go_simp, fun h => by have := HOL.out _ h; omega, HI.out.grow (hG2.trans hg), fun hl0 => ⟨HS.out hl0, by have := (HI.out.at 0 hl0).1; rw [alloc_size']; omega⟩⟩
  have HB1 := Lib.hid hb
  have HG2 := Lib.hid hG2
  have HR2 := Lib.hid (HR.out.grow hG2)
  clear hRS2 hR2 hU2 hG2 hb HSt
  go_wp2_with fail
  have hG1 : Grow w (w2.alloc (.cells (stA V E.now.num) 29)) := HG2.out.trans grI
  have HR1 := Lib.hid (HR2.out.grow (w' := w2.alloc (.cells (stA V E.now.num) 29)) grI)
  have HG1 := Lib.hid hG1
  clear hG1 HR2 HG2
  generalize w2.alloc (.cells (stA V E.now.num) 29) = W1 at *
  go_loopw [13] (fun i wr => ∃ (k : Nat) (own2 : Nat → Prop), k ≤ l.length ∧ i = .int .i64 k ∧ Turn W1 b own (E.fail (fightTo E.now l k)) wr own2) (fun i _ => l.length - (intOf i).toNat)
  case atStart => exact ⟨0, own, by omega, rfl, by rw [show fightTo E.now l 0 = 0 from rfl, fail_z]; exact Turn.first HR1.out⟩
  case round =>
    obtain ⟨k, own2, hk, rfl, hT⟩ := hrel
    have HT := Lib.hid hT
    have HBk := Lib.hid (hT.base HB1.out)
    clear hT
    by_cases hlt : k < l.length
    · obtain ⟨hlb, hlc⟩ := HBk.out.ints.at k hlt
      have hqb := HBk.out.blk
      have hql := HBk.out.lt
      have hqc := cell_of_blk HBk.out.free HBk.out.blk
      have hcap := HBk.out.ints.cap
      have hkc : (k : Int) ≤ s.c := by omega
      have HCd : Hid (E.fail (fightTo E.now l (k + 1)) = (((E.fail (fightTo E.now l k)).fail (codeW E.now (gt l k) (E.now.num 19))).fail (if (!decide (gt l k ∈ l.take k)) = true then 0 else 8)).fail (if mayB E.now (gt l k) = true then 0 else 6)) := by
        rw [Hid, fail_fail, fail_fail, fail_fail]
        show E.fail (firstOf (fightTo E.now l k) (codeF E.now l k)) = _
        unfold codeF
        simp only [firstOf_assoc]
      have HWh := Lib.hid (fun W (g : Grow wr W) => whose_any W b own2 _ (HT.out.em.grow g) E.now V (HBk.out.side.grow g) (gt l k) (E.now.num 19))
      generalize gt l k = id at *
      generalize E.fail (fightTo E.now l k) = Ek at *
      go_wp2_with fail
      refine (HWh.out _ grI).mono ?_
      rintro e' w3 ⟨rfl, hE⟩
      obtain ⟨own3, T3⟩ := HT.out.step grI hE
      have HT3 := Lib.hid T3
      have HB3 := Lib.hid (T3.base HB1.out)
      clear hE T3 hqb hql hqc hlb hlc HWh
      have hqb := HB3.out.blk
      have hql := HB3.out.lt
      have hqc := cell_of_blk HB3.out.free HB3.out.blk
      have HCo := Lib.hid (fun W (g : Grow w3 W) => contains_any W (s.pre k) (l.take k) id ((HB3.out.ints.pre k (by omega)).grow g) (by simp; omega))
      have HMu := Lib.hid (fun W (g : Grow w3 W) ok => cmust_any W b own3 _ (HT3.out.em.grow g) ok 8 (by decide))
      go_wp2_with (go_at_call 59; refine (HCo.out _ grI).mono ?_; rintro e' w' ⟨rfl, nx, rfl⟩)
      refine (HMu.out _ grI _).mono ?_
      rintro e' w4 ⟨rfl, hE⟩
      obtain ⟨own4, T4⟩ := HT3.out.step grI hE
      have HT4 := Lib.hid T4
      have HB4 := Lib.hid (T4.base HB1.out)
      clear hE T4 hqb hql hqc HCo HMu
      have hqb := HB4.out.blk
      have hql := HB4.out.lt
      have HMy := Lib.hid (fun W (g : Grow w4 W) => may_any E.now V W (HB4.out.side.rs.grow g) id)
      have HM6 := Lib.hid (fun W (g : Grow w4 W) ok => cmust_any W b own4 _ (HT4.out.em.grow g) ok 6 (by decide))
      go_wp2_with (go_at_call 26; refine (HMy.out _ grI).mono ?_; rintro e' w' ⟨rfl, nx, rfl⟩)
      refine (HM6.out _ grI _).mono ?_
      rintro e' w5 ⟨rfl, hE⟩
      obtain ⟨own5, T5⟩ := HT4.out.step grI hE
      have HT5 := Lib.hid T5
      clear hE T5 hqb hql HMy HM6
      go_wp2_with fail
      go_roundw
      case rel => exact ⟨k + 1, own5, by omega, by go_num, by rw [HCd.out]; exact HT5.out⟩
      case measure => simp [intOf]; omega
    · have hke : k = l.length := by omega
      subst hke
      clear hlt hk
      by_cases hz : fightTo E.now l l.length = 0
      · have HFt : Hid (E.fight E.now l = E.fights E.now l) := if_pos hz
        rw [hz, fail_z] at HT
        have HZ := Lib.hid hz
        clear hz
        go_wp2_with fail
        go_loopw [41] (fun i wr2 => ∃ (k2 : Nat) (own3 : Nat → Prop), k2 ≤ l.length ∧ i = .int .i64 k2 ∧ Turn W1 b own (E.fights E.now (l.take k2)) wr2 own3) (fun i _ => l.length - (intOf i).toNat)
        case atStart => exact ⟨0, own2, by omega, rfl, HT.out⟩
        case round =>
          obtain ⟨k2, own3, hk2, rfl, hT⟩ := hrel
          have HT3 := Lib.hid hT
          have HB3 := Lib.hid (hT.base HB1.out)
          clear hT
          by_cases hlt : k2 < l.length
          · obtain ⟨hlb, hlc⟩ := HB3.out.ints.at k2 hlt
            have HSc := Lib.hid (fights_succ E E.now l k2 hlt)
            have hFk := HF.out.fights (by omega) HZ.out k2 hk2
            have HEr := Lib.hid (fun W (g : Grow wr W) => by have := err_any W b own3 _ (HT3.out.em.grow g); rw [hFk.err, errV_0] at this; exact this)
            have HSet := Lib.hid (fun W (g : Grow wr W) => esetObj_any W b own3 _ (HT3.out.em.grow g) 65536 (hFk.ok (by omega)) (by omega) (gt l k2) 11 1)
            have HK2 := Lib.hid ((hFk.ok (by omega)).setObj (gt l k2) 11 1)
            generalize gt l k2 = id at *
            generalize E.fights E.now (l.take k2) = Ek at *
            clear hFk
            go_wp2_with (go_at_call 29; refine (HEr.out _ grI).mono ?_; rintro e' w' ⟨rfl, nx, rfl⟩)
            refine (HSet.out _ grI).mono ?_
            rintro e' w3 ⟨rfl, hE⟩
            obtain ⟨own4, T4⟩ := HT3.out.step grI hE
            have HT4 := Lib.hid T4
            have HB4 := Lib.hid (T4.base HB1.out)
            have HHs := Lib.hid (fun W (g : Grow w3 W) => has_word E.now V W (HB4.out.side.rs.grow g) id 8 (by decide) (by decide))
            have HSet2 := Lib.hid (fun W (g : Grow w3 W) => esetObj_any W b own4 _ (HT4.out.em.grow g) 65537 HK2.out (by omega) id 4 1)
            have hqb := HB4.out.blk
            have hql := HB4.out.lt
            have HOne : Hid (Ek.fightOne E.now id = if hasB E.now id 8 = true then Ek.setObj id 11 1 else (Ek.setObj id 11 1).setObj id 4 1) := rfl
            clear hE T4 hlb hlc
            cases h8 : hasB E.now id 8 with
            | true =>
              rw [h8] at HHs HOne
              rw [if_pos rfl] at HOne
              go_wp2_with (go_at_call 31; refine (HHs.out _ grI).mono ?_; rintro e' w' ⟨rfl, nx, rfl⟩)
              go_roundw
              case rel => exact ⟨k2 + 1, own4, by omega, by go_num, by rw [HSc.out, HOne.out]; exact HT4.out.grow grI⟩
              case measure => simp [intOf]; omega
            | false =>
              rw [h8] at HHs HOne
              rw [if_neg (by simp)] at HOne
              go_wp2_with (go_at_call 31; refine (HHs.out _ grI).mono ?_; rintro e' w' ⟨rfl, nx, rfl⟩)
              refine (HSet2.out _ grI).mono ?_
              rintro e' w4 ⟨rfl, hE⟩
              obtain ⟨own5, T5⟩ := HT4.out.step grI hE
              have HT5 := Lib.hid T5
              clear hE T5 hqb hql
              go_wp2_with fail
              go_roundw
              case rel => exact ⟨k2 + 1, own5, by omega, by go_num, by rw [HSc.out, HOne.out]; exact HT5.out⟩
              case measure => simp [intOf]; omega
          · have hke : k2 = l.length := by omega
            subst hke
            go_wp2_with fail
            go_end0
            have h2 := HT3.out
            rw [List.take_length] at h2
            exact ⟨rfl, by rw [HFt.out]; exact (h2.post HG1.out).more grI⟩
      · have HFt : Hid (E.fight E.now l = E.fail (fightTo E.now l l.length)) := if_neg hz
        have hpos : 0 < l.length := by
          cases l with
          | nil => exact absurd rfl hz
          | cons a l => simp
        have hEr := fun W (g : Grow wr W) => err_any W b own2 _ (HT.out.em.grow g)
        rw [fail_err HF.out.err, errV_is hz] at hEr
        have HEr := Lib.hid hEr
        obtain ⟨hlb, hlc⟩ := HBk.out.ints.at 0 hpos
        rw [Nat.add_zero] at hlc
        clear hz hEr
        generalize E.fail (fightTo E.now l l.length) = Ef at *
        generalize fightTo E.now l l.length = z at *
        generalize gt l 0 = id at *
        go_wp2_with fail
        go_loopw [41] (fun i wr2 => i = .int .i64 0 ∧ Grow wr wr2) (fun _ _ => 0)
        case atStart => exact ⟨rfl, grI⟩
        case round =>
          obtain ⟨rfl, x, rfl⟩ := hrel
          go_wp2_with (go_at_call 29; refine (HEr.out _ grI).mono ?_; rintro e' w' ⟨rfl, nx, rfl⟩)
          refine bodyPost_ret (results_none rfl _ _ _) rfl ?_
          exact ⟨rfl, by rw [HFt.out]; exact (HT.out.post HG1.out).more grI⟩
/-! ### An emitter with an error -/
theorem efail_err (w : World) (b : Nat) (own : Nat → Prop) (E : Em) (R : Emt w b own E) (he : E.err ≠ 0) (v : Value) :
    Calls Tryz.prog 45 #[.pointer (some ⟨b, 0, none⟩), v] w fun e w' => e = .returned (.tuple #[]) ∧ Grow w w' := by
  obtain ⟨V, sd, se, sp, hr, ho⟩ := R
  have hH := hr.host
  have hcell := cell_of_blk (hH).free (hH).blk; have hfz := frozen_of_free (hH).free; have hset := setCell_of_blk (hH).free (hH).blk; have hblk := (hH).blk; have hfree := (hH).free; have hlt := (hH).lt; have hne1 : ¬ b = (w).heap.size := (by omega); have hne2 : ¬ (w).heap.size = b := (by omega)
  have hc40 := hr.errCell
  rw [errV_is he] at hc40
  clear hr ho hH hblk hset hcell he
  go_enter Tryz.func45, Tryz.ntmps45
  go_wp2_with fail
  go_end0
  exact ⟨rfl, grI⟩
theorem cmust_err (w : World) (b : Nat) (own : Nat → Prop) (E : Em) (R : Emt w b own E) (he : E.err ≠ 0) (ok : Bool) (k : Int) :
    Calls Tryz.prog 58 #[.pointer (some ⟨b, 0, none⟩), .bool ok, .int .i64 k] w fun r w' => r = .returned (.tuple #[]) ∧ Grow w w' := by
  have HF := Lib.hid (fun W (g : Grow w W) v => efail_err W b own E (R.grow g) he v)
  clear R he
  cases ok
  all_goals
    go_enter Tryz.func58, Tryz.ntmps58
    go_wp2_with (go_at_call 45; refine (HF.out _ grI _).mono ?_; rintro e' w' ⟨rfl, nx, rfl⟩)
    go_end0
    exact ⟨rfl, grI⟩
set_option maxRecDepth 100000 in
theorem whose_err (w : World) (b : Nat) (own : Nat → Prop) (E : Em) (R : Emt w b own E) (he : E.err ≠ 0) (S : St) (V : SV) (h : RS S V w) (id pl : Int) (hc : creatureB S id = false) :
    Calls Tryz.prog 57 #[.pointer (some ⟨b, 0, none⟩), .agg (stA V S.num), .int .i64 id, .int .i64 pl] w fun r w' => r = .returned (.tuple #[]) ∧ Grow w w' := by
  have HI := Lib.hid (fun W (g : Grow w W) => by have := is_any S V W (h.grow g) id; rw [hc] at this; exact this)
  have HM := Lib.hid (fun W (g : Grow w W) ok k => cmust_err W b own E (R.grow g) he ok k)
  clear R he h hc
  go_enter Tryz.func57, Tryz.ntmps57
  go_wp2_with (first | (go_at_call 40; refine (HI.out _ grI).mono ?_; rintro e' w' ⟨rfl, nx, rfl⟩) | (go_at_call 58; refine (HM.out _ grI _ _).mono ?_; rintro e' w' ⟨rfl, nx, rfl⟩))
  go_end0
  exact ⟨rfl, grI⟩
theorem rs_zero {w : World} (GL : Glob w) : RS St0 SV.zero w := ⟨repSt_zero w, (checkN_zero St0).1 (by decide +kernel), ⟨by simp [St0], fun _ _ => by simp [St0]⟩, GL⟩
theorem creature_none (id : Int) : creatureB St0 id = false := by
  cases h : creatureB St0 id with
  | false => rfl
  | true =>
    obtain ⟨c1, c2, _⟩ := creatureB_in h
    have h0 : St0.objs.length = 0 := rfl
    omega
set_option maxRecDepth 100000 in
set_option maxHeartbeats 4000000 in
theorem fight_bad (w : World) (b : Nat) (own : Nat → Prop) (E : Em) (R : Emt w b own E) (he : E.err ≠ 0) (GL : Glob w) (s : Sl) (l : List Int) (hI : Ints w s l) (hl : l.length ≤ 1000) :
    Calls Tryz.prog 22 #[.pointer (some ⟨b, 0, none⟩), s.val] w fun r w' => r = .returned (.tuple #[]) ∧ Grow w w' := by
  have hsn := hI.len
  have HSt := Lib.hid (fun W (g : Grow w W) => estate_bad W _ _ he ((errsAt_em R).grow g))
  have HEr := Lib.hid (fun W (g : Grow w W) => by have := err_any W b own E (R.grow g); rw [errV_is he] at this; exact this)
  have HWh : Hid (∀ W, Grow w W → ∀ id pl, Calls Tryz.prog 57 #[.pointer (some ⟨b, 0, none⟩), .agg (stA SV.zero fun _ => 0), .int .i64 id, .int .i64 pl] W fun r w' => r = .returned (.tuple #[]) ∧ Grow W w') := fun W g id pl => whose_err W b own E (R.grow g) he St0 SV.zero (rs_zero (GL.grow g)) id pl (creature_none id)
  have HMy : Hid (∀ W, Grow w W → ∀ id, Calls Tryz.prog 26 #[.agg (stA SV.zero fun _ => 0), .int .i64 id] W fun e w' => e = .returned (.bool (mayB St0 id)) ∧ Grow W w') := fun W g id => may_any St0 SV.zero W (rs_zero (GL.grow g)) id
  have HM := Lib.hid (fun W (g : Grow w W) ok k => cmust_err W b own E (R.grow g) he ok k)
  have HI := Lib.hid hI
  clear R he GL hI
  go_enter Tryz.func22, Tryz.ntmps22
  go_wp2_with (go_at_call 30; refine (HSt.out _ grI).mono ?_; rintro e' w' ⟨rfl, nx, rfl⟩)
  go_loopw [13] (fun i wr => ∃ k : Nat, k ≤ l.length ∧ i = .int .i64 k ∧ Grow ((w.plus nx).alloc (.cells (stA SV.zero fun _ => 0) 29)) wr) (fun i _ => l.length - (intOf i).toNat)
  case atStart => exact ⟨0, by omega, rfl, grI⟩
  case round =>
    obtain ⟨k, hk, rfl, x, rfl⟩ := hrel
    by_cases hlt : k < l.length
    · obtain ⟨hlb, hlc⟩ := HI.out.at k hlt
      have hcap := HI.out.cap
      have hkc : (k : Int) ≤ s.c := by omega
      have HCo := Lib.hid (fun W (g : Grow w W) x => contains_any W (s.pre k) (l.take k) x ((HI.out.pre k (by omega)).grow g) (by simp; omega))
      generalize gt l k = id at *
      go_wp2_with (first | (go_at_call 57; refine (HWh.out _ grI _ _).mono ?_; rintro e' w' ⟨rfl, nx, rfl⟩) | (go_at_call 59; refine (HCo.out _ grI _).mono ?_; rintro e' w' ⟨rfl, nx, rfl⟩) | (go_at_call 26; refine (HMy.out _ grI _).mono ?_; rintro e' w' ⟨rfl, nx, rfl⟩) | (go_at_call 58; refine (HM.out _ grI _ _).mono ?_; rintro e' w' ⟨rfl, nx, rfl⟩))
      go_roundw
      case rel => exact ⟨k + 1, by omega, by go_num, grI⟩
      case measure => simp [intOf]; omega
    · clear hk
      by_cases hpos : 0 < l.length
      · obtain ⟨hlb, hlc⟩ := HI.out.at 0 hpos
        rw [Nat.add_zero] at hlc
        generalize gt l 0 = id at *
        go_wp2_with fail
        go_loopw [41] (fun i wr => i = .int .i64 0 ∧ Grow w wr) (fun _ _ => 0)
        case atStart => exact ⟨rfl, grI⟩
        case round =>
          obtain ⟨rfl, x, rfl⟩ := hrel
          go_wp2_with (go_at_call 29; refine (HEr.out _ grI).mono ?_; rintro e' w' ⟨rfl, nx, rfl⟩)
          refine bodyPost_ret (results_none rfl _ _ _) rfl ?_
          exact ⟨rfl, grI⟩
      · have h0 : l.length = 0 := by omega
        go_wp2_with fail
        go_loopw [41] (fun i wr => i = .int .i64 0 ∧ Grow w wr) (fun _ _ => 0)
        case atStart => exact ⟨rfl, grI⟩
        case round =>
          obtain ⟨rfl, x, rfl⟩ := hrel
          go_wp2_with fail
          go_end0
          exact ⟨rfl, grI⟩
end Go.Proofs.YtnjdkkgkaafdbaaGreatDoor
