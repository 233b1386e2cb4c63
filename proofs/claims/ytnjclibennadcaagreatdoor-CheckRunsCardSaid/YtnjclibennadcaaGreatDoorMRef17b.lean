/-
  The document's shapes: who is of a static's group, and how strong a creature is.
  The document's shape of a creature is that of the program: three passes over the statics, and one.
-/
import Derived.Test.YtnjclibennadcaaGreatDoorMRef17
import Derived.Test.YtnjclibennadcaaGreatDoorMRef01
namespace Go.Proofs.YtnjclibennadcaaGreatDoor
open Go Go.RowKit

/-- What the statics of cards are. -/
def statB (a : AbN) : Bool := a.wh != 5 || (decide (0 ≤ a.grp) && decide (a.grp ≤ 3) && (a.op == 10 || a.op == 23 || a.op == 24 || a.op == 25) && decide (-3 ≤ a.n) && decide (a.n ≤ 255) && decide (-3 ≤ a.m) && decide (a.m ≤ 3) && (a.op == 10 || a.op == 24 || decide (0 ≤ a.n)))
theorem stat_cards : ∀ n, n < 120 → ((cardN n).abs.all statB) = true := by decide +kernel
structure StFine (S : St) (t : StN) : Prop where
  src : 0 ≤ t.src ∧ t.src < S.objs.length
  ctl : t.ctl = gt (rowAt S.objs t.src.toNat) 2
  grp : 0 ≤ t.grp ∧ t.grp ≤ 3
  op : t.op = 10 ∨ t.op = 23 ∨ t.op = 24 ∨ t.op = 25
  n : -3 ≤ t.n ∧ t.n ≤ 255
  m : -3 ≤ t.m ∧ t.m ≤ 3
  pos : t.op = 23 ∨ t.op = 25 → 0 ≤ t.n
theorem statics_fine {S : St} (h : Right S) : ∀ t ∈ staticsN S, StFine S t := by
  intro t ht
  unfold staticsN at ht
  obtain ⟨id, hid, ht⟩ := List.mem_flatMap.1 ht
  obtain ⟨o1, o2, _, _⟩ := h.zon.ok 8 (by decide) id hid
  obtain ⟨d, rfl⟩ := Int.eq_ofNat_of_zero_le o1
  have hd : d < S.objs.length := by omega
  unfold statsOf at ht
  rw [Int.toNat_natCast] at ht
  obtain ⟨x, hx, rfl⟩ := List.mem_map.1 ht
  obtain ⟨i, rfl, hi, hw⟩ := usesN_at _ _ _ hx
  have hc := h.card hd
  have hall := stat_cards (gt (rowAt S.objs d) 0).toNat (by omega)
  have hb : statB ((kindN S d).abs.getD i ⟨0, 0, 0, 0, 0⟩) = true := by
    refine List.all_eq_true.1 hall _ ?_
    show (kindN S d).abs.getD i _ ∈ (kindN S d).abs
    rw [List.getD_eq_getElem?_getD, List.getElem?_eq_getElem hi]
    exact List.getElem_mem hi
  have e : statOf S d (i : Int) = ⟨d, gt (rowAt S.objs d) 2, ((kindN S d).abs.getD i ⟨0, 0, 0, 0, 0⟩).grp, ((kindN S d).abs.getD i ⟨0, 0, 0, 0, 0⟩).op, ((kindN S d).abs.getD i ⟨0, 0, 0, 0, 0⟩).n, ((kindN S d).abs.getD i ⟨0, 0, 0, 0, 0⟩).m⟩ := by rw [statOf, Int.toNat_natCast]
  rw [e]
  generalize (kindN S d).abs.getD i ⟨0, 0, 0, 0, 0⟩ = a at *
  unfold statB at hb
  simp only [Bool.or_eq_true, bne_iff_ne, ne_eq, Bool.and_eq_true, decide_eq_true_eq, beq_iff_eq] at hb
  rcases hb with hb | hb
  · exact absurd hw hb
  · obtain ⟨⟨⟨⟨⟨⟨⟨h1, h2⟩, h3⟩, h4⟩, h5⟩, h6⟩, h7⟩, h8⟩ := hb
    exact ⟨⟨by omega, by show (d : Int) < _; omega⟩, by show _ = gt (rowAt S.objs (d : Int).toNat) 2; rw [Int.toNat_natCast], ⟨h1, h2⟩, by rcases h3 with ((h | h) | h) | h <;> simp [h], ⟨h4, h5⟩, ⟨h6, h7⟩, fun h => by
      rcases h8 with (h' | h') | h'
      · rcases h with h | h <;> (simp only at h; omega)
      · rcases h with h | h <;> (simp only at h; omega)
      · exact h'⟩
set_option maxRecDepth 100000 in
set_option maxHeartbeats 2000000 in
theorem within_any (S : St) (V : SV) (w : World) (R : RepSt w V S) (x : S6) (t : StN) (h1 : x.src = t.src) (h2 : x.ef.n = t.grp) (F : StFine S t) (d : Nat) (hd : d < S.objs.length) :
    Calls Tryz.prog 135 #[.agg (stA V S.num), .agg x.arr, .int .i64 (d : Int)] w fun e w' => e = .returned (.bool (reachesB S t d)) ∧ Grow w w' := by
  have hN := R.objs.len
  obtain ⟨hob, how, hosz, hosub, hocell⟩ := R.objs.at (by omega) d hd
  have hoc := hocell 2 (by omega)
  obtain ⟨k, hk⟩ := Int.eq_ofNat_of_zero_le F.src.1
  have hkl : k < S.objs.length := by have := F.src.2; omega
  obtain ⟨hob2, how2, hosz2, hosub2, hocell2⟩ := R.objs.at (by omega) k hkl
  have hoc2 := hocell2 2 (by omega)
  have hd' : (d : Int) < S.objs.length := by omega
  have hk' : (k : Int) < S.objs.length := by omega
  have hx : x.src = (k : Int) := h1.trans hk
  have HX : Hid (reachesB S t d = if x.ef.n = 0 then true else if x.ef.n = 1 then gt (rowAt S.objs d) 2 == gt (rowAt S.objs k) 2 else if x.ef.n = 2 then !(gt (rowAt S.objs d) 2 == gt (rowAt S.objs k) 2) else (gt (rowAt S.objs d) 2 == gt (rowAt S.objs k) 2) && !((d : Int) == k)) := by
    rw [Hid, reachesB, F.ctl, h2, hk, Int.toNat_natCast]
  have hg : x.ef.n = 0 ∨ x.ef.n = 1 ∨ x.ef.n = 2 ∨ x.ef.n = 3 := by have := F.grp; omega
  clear hocell hosub hosz hocell2 hosub2 hosz2 R F h1 h2 hk
  generalize gt (rowAt S.objs d) 2 = ctl at *
  generalize gt (rowAt S.objs k) 2 = ctl2 at *
  generalize hs : (ctl == ctl2) = same at *
  have HSM := Lib.hid hs
  rcases hg with h | h | h | h <;> cases same
  all_goals
    go_enter Tryz.func135, Tryz.ntmps135
    go_wp2_with fail
    refine wp_region_grow (by kernel_rfl) (by kernel_rfl) ?_; (repeat (go_big_quiet_step ( fail ))); refine wpQuiet_nil ?_; rintro _ ⟨nx, rfl⟩
    go_wp2_with fail
    go_ret
    exact ⟨ret_bool (by rw [HX.out, h]; first | rfl | (simp; done) | (rw [bne, BEq.comm (a := (k : Int))]; rfl)), grI⟩
end Go.Proofs.YtnjclibennadcaaGreatDoor
namespace Go.Proofs.YtnjclibennadcaaGreatDoor
open Go Go.RowKit

def becS (S : St) (d : Nat) (e : Int × Int) (x : StN) : Int × Int := if x.op = 24 ∧ reachesB S x d = true then (x.n, x.m) else e
def pumS (S : St) (d : Nat) (e : Int × Int) (x : StN) : Int × Int := if x.op = 10 ∧ reachesB S x d = true then (wrap64 (e.1 + x.n), wrap64 (e.2 + x.m)) else e
def wdS (S : St) (d : Nat) (e : Nat) (x : StN) : Nat := if (x.op = 23 ∨ x.op = 25) ∧ reachesB S x d = true then turnTo e x.n.toNat (x.op == 23) 8 else e
def becTo (S : St) (d k : Nat) : Int × Int := ((staticsN S).take k).foldl (becS S d) ((kindN S d).pw, (kindN S d).tf)
def pumTo (S : St) (d k : Nat) (e : Int × Int) : Int × Int := ((staticsN S).take k).foldl (pumS S d) e
def wdTo (S : St) (d k : Nat) (e : Nat) : Nat := ((staticsN S).take k).foldl (wdS S d) e
theorem fold_succ {α : Type} (f : α → StN → α) (S : St) (k : Nat) (x : StN) (e : α) (h : (staticsN S)[k]? = some x) : ((staticsN S).take (k + 1)).foldl f e = f (((staticsN S).take k).foldl f e) x := by
  rw [List.take_add_one, h, List.foldl_append]; rfl
theorem w64_add (a b : Int) : wrap64 (wrap64 a + b) = wrap64 (a + b) := by unfold wrap64; omega
theorem w64_id (a : Int) (h : -9223372036854775808 ≤ a ∧ a ≤ 9223372036854775807) : wrap64 a = a := by unfold wrap64; omega
theorem w64_in (a : Int) : -9223372036854775808 ≤ wrap64 a ∧ wrap64 a ≤ 9223372036854775807 := by unfold wrap64; omega
theorem small_bit {a : Nat} (ha : a < 256) {i : Nat} (hi : ¬ i < 8) : a.testBit i = false :=
  Nat.testBit_lt_two_pow (Nat.lt_of_lt_of_le ha (by rw [show (256 : Nat) = 2 ^ 8 from rfl]; exact Nat.pow_le_pow_right (by omega) (by omega)))
theorem wrap_nat {a : Nat} (ha : a < 256) : IntKind.i64.wrap (a : Int) = a := by
  unfold IntKind.wrap
  simp [IntKind.signed, IntKind.bits]
  omega
theorem ofInt_bit (a i : Nat) (hi : i < 64) : (BitVec.ofInt 64 (a : Int)).getLsbD i = a.testBit i := by
  rw [BitVec.ofInt_natCast, BitVec.getLsbD_ofNat]; simp [hi]
theorem turn_lt (a b : Nat) (is : Bool) (ha : a < 256) : turnTo a b is 8 < 256 := by
  refine Nat.lt_pow_two_of_testBit (n := 8) _ (fun i hi => ?_)
  rw [turnTo_testBit a b is (by omega) 8 i (by omega), if_neg (fun h => by omega)]
  exact small_bit ha (by omega)
theorem bits_or_nat (a b : Nat) (ha : a < 256) (hb : b < 256) : bits .or .i64 (a : Int) (b : Int) = ((a ||| b : Nat) : Int) := by
  have hv : (BitVec.ofInt 64 (a : Int) ||| BitVec.ofInt 64 (b : Int)).toNat = a ||| b := by
    apply Nat.eq_of_testBit_eq
    intro i
    rw [BitVec.testBit_toNat, BitVec.getLsbD_or, Nat.testBit_or]
    by_cases hi : i < 64
    · rw [ofInt_bit _ _ hi, ofInt_bit _ _ hi]
    · rw [BitVec.getLsbD_of_ge _ _ (by omega), BitVec.getLsbD_of_ge _ _ (by omega), small_bit ha (by omega), small_bit hb (by omega)]
  show IntKind.i64.wrap ((BitVec.ofInt 64 (a : Int) ||| BitVec.ofInt 64 (b : Int)).toNat : Int) = _
  rw [hv]
  exact wrap_nat (Nat.or_lt_two_pow (n := 8) ha hb)
theorem bits_not_nat (a b : Nat) (ha : a < 256) (hb : b < 256) : bits .andNot .i64 (a : Int) (b : Int) = ((turnTo a b false 8 : Nat) : Int) := by
  have hv : (BitVec.ofInt 64 (a : Int) &&& ~~~ BitVec.ofInt 64 (b : Int)).toNat = turnTo a b false 8 := by
    apply Nat.eq_of_testBit_eq
    intro i
    rw [BitVec.testBit_toNat, BitVec.getLsbD_and, BitVec.getLsbD_not, turnTo_testBit a b false (by omega) 8 i (by omega)]
    by_cases hi : i < 64
    · rw [ofInt_bit _ _ hi, ofInt_bit _ _ hi]
      by_cases hbi : b.testBit i = true
      · have h8 : i < 8 := by
          rcases Nat.lt_or_ge i 8 with h | h
          · exact h
          · rw [small_bit hb (by omega)] at hbi; cases hbi
        rw [if_pos ⟨h8, hbi⟩, hbi]; simp
      · rw [if_neg (fun h => hbi h.2)]; simp at hbi; simp [hbi, hi]
    · rw [BitVec.getLsbD_of_ge _ _ (by omega), if_neg (fun h => by omega), small_bit ha (by omega)]; simp
  show IntKind.i64.wrap ((BitVec.ofInt 64 (a : Int) &&& ~~~ BitVec.ofInt 64 (b : Int)).toNat : Int) = _
  rw [hv]
  exact wrap_nat (turn_lt _ _ _ ha)
theorem card_says : ∀ n, n < 120 → 0 ≤ (cardN n).says ∧ (cardN n).says < 256 ∧ -100 ≤ (cardN n).pw ∧ (cardN n).pw ≤ 100 ∧ -100 ≤ (cardN n).tf ∧ (cardN n).tf ≤ 100 := by decide +kernel
/-- One step of the one pass beside one of each of the three. -/
structure Beside (o8 o9 : Int) (B : Int × Int) (e : Evl) (b : Int × Int) (p : Int × Int) (wd : Nat) : Prop where
  bp : e.p = b.1
  bt : e.t = b.2
  mp : wrap64 (p.1 + o8) = wrap64 (B.1 + e.mp)
  mt : wrap64 (p.2 + o9) = wrap64 (B.2 + e.mt)
  ww : e.w = (wd : Int)
  lt : wd < 256
theorem Beside.step {S : St} {d : Nat} {o8 o9 : Int} {B : Int × Int} {e : Evl} {b p : Int × Int} {wd : Nat} (h : Beside o8 o9 B e b p wd) {x : StN} (F : StFine S x) : Beside o8 o9 B (evStep S d e x) (becS S d b x) (pumS S d p x) (wdS S d wd x) := by
  unfold evStep becS pumS wdS
  cases hr : reachesB S x d with
  | false => simp only [if_true, Bool.false_eq_true, and_false, if_false]; exact h
  | true =>
    simp only [Bool.true_eq_false, if_false, and_true]
    have h1 := h.mp
    have h2 := h.mt
    rcases F.op with ho | ho | ho | ho <;> rw [ho]
    · simp only [show ¬ (10 : Int) = 24 by decide, show ¬ ((10 : Int) = 23 ∨ (10 : Int) = 25) by decide, if_false, if_true]
      exact ⟨h.bp, h.bt, by show wrap64 (wrap64 (p.1 + x.n) + o8) = wrap64 (B.1 + wrap64 (e.mp + x.n)); unfold wrap64 at *; omega, by show wrap64 (wrap64 (p.2 + x.m) + o9) = wrap64 (B.2 + wrap64 (e.mt + x.m)); unfold wrap64 at *; omega, h.ww, h.lt⟩
    · have hp := F.pos (.inl ho)
      have hn := F.n
      simp only [show ¬ (23 : Int) = 24 by decide, show ¬ (23 : Int) = 10 by decide, if_false, if_true, true_or]
      refine ⟨h.bp, h.bt, h1, h2, ?_, turn_lt _ _ _ h.lt⟩
      show bits .or .i64 e.w x.n = _
      rw [h.ww, show x.n = (x.n.toNat : Int) by omega, bits_or_nat _ _ h.lt (by omega), Int.toNat_natCast, ← turn_or _ _ (by have := h.lt; omega) (by omega)]
      rfl
    · simp only [show ¬ ((24 : Int) = 23 ∨ (24 : Int) = 25) by decide, show ¬ (24 : Int) = 10 by decide, if_false, if_true]
      exact ⟨rfl, rfl, h1, h2, h.ww, h.lt⟩
    · have hp := F.pos (.inr ho)
      have hn := F.n
      simp only [show ¬ (25 : Int) = 24 by decide, show ¬ (25 : Int) = 10 by decide, show ¬ (25 : Int) = 23 by decide, if_false, if_true, or_true]
      refine ⟨h.bp, h.bt, h1, h2, ?_, turn_lt _ _ _ h.lt⟩
      show bits .andNot .i64 e.w x.n = _
      rw [h.ww, show x.n = (x.n.toNat : Int) by omega, bits_not_nat _ _ h.lt (by omega), Int.toNat_natCast]
      rfl
theorem Beside.all {S : St} {d : Nat} {o8 o9 : Int} {B : Int × Int} : ∀ (l : List StN) {e : Evl} {b p : Int × Int} {wd : Nat}, (∀ x ∈ l, StFine S x) → Beside o8 o9 B e b p wd → Beside o8 o9 B (l.foldl (evStep S d) e) (l.foldl (becS S d) b) (l.foldl (pumS S d) p) (l.foldl (wdS S d) wd)
  | [], _, _, _, _, _, h => h
  | x :: l, _, _, _, _, hl, h => Beside.all l (fun y hy => hl y (by simp [hy])) (h.step (hl x (by simp)))
/-- What the document's shape is. -/
def shape17 (S : St) (d : Nat) : List Int :=
  let n := (staticsN S).length
  let b := becTo S d n
  let p := pumTo S d n (wrap64 (b.1 + gt (rowAt S.objs d) 7), wrap64 (b.2 + gt (rowAt S.objs d) 7))
  [wrap64 (p.1 + gt (rowAt S.objs d) 8), wrap64 (p.2 + gt (rowAt S.objs d) 9), (turnTo (wdTo S d n (kindN S d).says.toNat) (gt (rowAt S.objs d) 10).toNat true 8 : Nat)]
theorem shape17_is {S : St} (h : Right S) {d : Nat} (hd : d < S.objs.length) : shape17 S d = shapeN S d := by
  obtain ⟨hc0, hc1⟩ := h.card hd
  obtain ⟨s1, s2, _⟩ := card_says (gt (rowAt S.objs d) 0).toNat (by omega)
  have k1 : 0 ≤ (kindN S d).says := s1
  have k2 : (kindN S d).says < 256 := s2
  obtain ⟨w1, w2⟩ := h.num hd (f := 10) (by decide)
  have e1 : gt (objBounds S.objs.length) (10 * 2) = 0 := rfl
  have e2 : gt (objBounds S.objs.length) (10 * 2 + 1) = 255 := rfl
  rw [e1] at w1
  rw [e2] at w2
  have hb := Beside.all (S := S) (d := d) (o8 := gt (rowAt S.objs d) 8) (o9 := gt (rowAt S.objs d) 9) (B := becTo S d (staticsN S).length) (staticsN S) (e := ev0 S d) (b := ((kindN S d).pw, (kindN S d).tf)) (p := (wrap64 ((becTo S d (staticsN S).length).1 + gt (rowAt S.objs d) 7), wrap64 ((becTo S d (staticsN S).length).2 + gt (rowAt S.objs d) 7))) (wd := (kindN S d).says.toNat) (statics_fine h)
    ⟨rfl, rfl, by show wrap64 (wrap64 _ + _) = wrap64 (_ + (gt (rowAt S.objs d) 7 + gt (rowAt S.objs d) 8)); unfold wrap64; omega, by show wrap64 (wrap64 _ + _) = wrap64 (_ + (gt (rowAt S.objs d) 7 + gt (rowAt S.objs d) 9)); unfold wrap64; omega, by show (kindN S d).says = _; omega, by omega⟩
  unfold shape17 shapeN evN
  simp only [becTo, pumTo, wdTo, List.take_length] at hb ⊢
  rw [hb.mp, hb.mt, hb.ww, hb.bp, hb.bt, show gt (rowAt S.objs d) 10 = ((gt (rowAt S.objs d) 10).toNat : Int) by omega, bits_or_nat _ _ hb.lt (by omega), Int.toNat_natCast, turn_or _ _ (by have := hb.lt; omega) (by omega)]
end Go.Proofs.YtnjclibennadcaaGreatDoor
