/- The walks of effect's numbers and single. -/
import Derived.Test.YthfalocligkamaaGreatDoorMEf1
namespace Go.Proofs.YthfalocligkamaaGreatDoor
open Go Go.RowKit Go.Shelf
theorem zog (op : Int) : whN op = 0 ∨ whN op = 1 ∨ whN op = 4 ∨ whN op = 8 ∨ whN op = 14 ∨ whN op = 16 ∨ whN op = 19 ∨ whN op = 34 := by
 unfold whN
 (repeat' split) <;> simp
theorem zoc (op : Int) : tgN op = 0 ∨ tgN op = 1 ∨ tgN op = 4 ∨ tgN op = 8 ∨ tgN op = 14 ∨ tgN op = 16 ∨ tgN op = 19 ∨ tgN op = 34 := by
 unfold tgN
 (repeat' split) <;> simp
theorem zj4 (op i : Int) (h : 0 ≤ i ∧ i ≤ 5) : hasN (whN op) i = (asks op).wh.contains i := by
 have hi : i = 0 ∨ i = 1 ∨ i = 2 ∨ i = 3 ∨ i = 4 ∨ i = 5 := by omega
 unfold whN asks
 simp only
 (repeat' split) <;> (rcases hi with rfl | rfl | rfl | rfl | rfl | rfl <;> decide)
theorem zmm (op i : Int) (h : 0 ≤ i ∧ i ≤ 5) : hasN (tgN op) i = (asks op).tg.contains i := by
 have hi : i = 0 ∨ i = 1 ∨ i = 2 ∨ i = 3 ∨ i = 4 ∨ i = 5 := by omega
 unfold tgN asks
 simp only
 (repeat' split) <;> (rcases hi with rfl | rfl | rfl | rfl | rfl | rfl <;> decide)
@[go_sem] theorem z5b (w : World) (sg : Bool) (n m wh tg lo hi : Int) : (Instr.field 109 (.agg (shR sg n m wh tg lo hi)) 3).run Tryz.prog w = .ok (.int .u64 wh) w := by kernel_rfl
set_option maxRecDepth 100000 in
set_option maxHeartbeats 4000000 in
theorem zoy (w : World) (op : Int) : Calls Tryz.prog 69 #[.int .i64 op] w fun e w' => e = .returned (.bool (zej op)) ∧ Grow w w' := by
 by_cases h1 : op = 1
 · subst h1
   go_enter Tryz.func69, Tryz.ntmps69
   go_wp2_with fail
   go_ret
   exact ⟨rfl, grI⟩
 · have hs : zej op = hasN (whN op) 3 := by unfold zej; rw [decide_eq_false h1, zj4 op 3 (by omega)]; rfl
   have HO := Lib.hid (fun W => zhl W op)
   have HH := Lib.hid (fun W => zc1 W (whN op) 3 (by omega) (zog op))
   rw [hs]
   have b1 : (op == 1) = false := by simpa using h1
   clear h1 hs
   generalize asks op = A at *
   generalize whN op = wh at *
   generalize hasN wh 3 = B at *
   go_enter Tryz.func69, Tryz.ntmps69
   go_wp2_with (first | (go_at_call 66; refine (HO.out _).mono ?_; rintro e' w' ⟨rfl, nx, rfl⟩) | (go_at_call 67; refine (HH.out _).mono ?_; rintro e' w' ⟨rfl, nx, rfl⟩))
   go_ret
   exact ⟨rfl, grI⟩
set_option maxRecDepth 100000 in
set_option maxHeartbeats 8000000 in
theorem zcv (w : World) (op n m who : Int) (a : Option Addr) (k c : Nat) (sg : Bool) (N M wh tg lo hi : Int) (hN : 0 ≤ N ∧ N ≤ 1000) (hM : 0 ≤ M ∧ M ≤ 1000) :
 Calls Tryz.prog 68 #[.agg (exR op n m who a k c), .agg (shR sg N M wh tg lo hi)] w fun e w' => e = .returned (.bool (inW n N sg && inW m M sg && inW who 4 false && (if op = 23 ∨ op = 25 then decide (n ≤ 255) else if op = 14 then decide (112 ≤ m ∧ m ≤ 119) else true))) ∧ Grow w w' := by
 have H1 := Lib.hid (fun W => zgb W n N sg hN)
 have H2 := Lib.hid (fun W => zgb W m M sg hM)
 have H3 := Lib.hid (fun W => zgb W who 4 false (by omega))
 cases e1 : inW n N sg
 · rw [e1] at H1
   rw [Bool.false_and, Bool.false_and, Bool.false_and]
   clear H2 H3 e1 hN hM
   go_enter Tryz.func68, Tryz.ntmps68
   go_wp2_with (go_at_call 100; refine (H1.out _).mono ?_; rintro e' w' ⟨rfl, nx, rfl⟩)
   go_ret
   exact ⟨rfl, grI⟩
 rw [e1] at H1
 clear e1
 cases e2 : inW m M sg
 · rw [e2] at H2
   rw [Bool.and_false, Bool.false_and, Bool.false_and]
   clear H3 e2 hN hM
   go_enter Tryz.func68, Tryz.ntmps68
   go_wp2_with fail
   refine (H1.out _).mono ?_
   rintro e' w' ⟨rfl, nx, rfl⟩
   go_wp2_with fail
   refine (H2.out _).mono ?_
   rintro e' w' ⟨rfl, nx, rfl⟩
   go_wp2_with fail
   go_ret
   exact ⟨rfl, grI⟩
 rw [e2] at H2
 cases e3 : inW who 4 false
 · rw [e3] at H3
   rw [Bool.and_false, Bool.false_and]
   clear e3 e2 hN hM
   go_enter Tryz.func68, Tryz.ntmps68
   go_wp2_with fail
   refine (H1.out _).mono ?_
   rintro e' w' ⟨rfl, nx, rfl⟩
   go_wp2_with fail
   refine (H2.out _).mono ?_
   rintro e' w' ⟨rfl, nx, rfl⟩
   go_wp2_with fail
   refine (H3.out _).mono ?_
   rintro e' w' ⟨rfl, nx, rfl⟩
   go_wp2_with fail
   go_ret
   exact ⟨rfl, grI⟩
 rw [e3] at H3
 rw [Bool.and_true, Bool.and_true, Bool.true_and]
 clear e3 e2 hN hM
 by_cases h23 : op = 23 ∨ op = 25
 · rw [if_pos h23]
   rcases h23 with rfl | rfl
   all_goals
    go_enter Tryz.func68, Tryz.ntmps68
    go_wp2_with fail
    refine (H1.out _).mono ?_
    rintro e' w' ⟨rfl, nx, rfl⟩
    go_wp2_with fail
    refine (H2.out _).mono ?_
    rintro e' w' ⟨rfl, nx, rfl⟩
    go_wp2_with fail
    refine (H3.out _).mono ?_
    rintro e' w' ⟨rfl, nx, rfl⟩
    go_wp2_with fail
    go_ret
    exact ⟨rfl, grI⟩
 · rw [if_neg h23]
   have b23 : (op == 23) = false := by simpa using fun h => h23 (Or.inl h)
   have b25 : (op == 25) = false := by simpa using fun h => h23 (Or.inr h)
   clear h23
   by_cases h14 : op = 14
   · subst h14
     rw [if_pos rfl, Bool.decide_and]
     cases d1 : decide (112 ≤ m) <;> cases d2 : decide (m ≤ 119)
     all_goals
      go_enter Tryz.func68, Tryz.ntmps68
      go_wp2_with fail
      refine (H1.out _).mono ?_
      rintro e' w' ⟨rfl, nx, rfl⟩
      go_wp2_with fail
      refine (H2.out _).mono ?_
      rintro e' w' ⟨rfl, nx, rfl⟩
      go_wp2_with fail
      refine (H3.out _).mono ?_
      rintro e' w' ⟨rfl, nx, rfl⟩
      go_wp2_with fail
      go_ret
      exact ⟨rfl, grI⟩
   · rw [if_neg h14]
     have b14 : (op == 14) = false := by simpa using h14
     clear h14
     go_enter Tryz.func68, Tryz.ntmps68
     go_wp2_with fail
     refine (H1.out _).mono ?_
     rintro e' w' ⟨rfl, nx, rfl⟩
     go_wp2_with fail
     refine (H2.out _).mono ?_
     rintro e' w' ⟨rfl, nx, rfl⟩
     go_wp2_with fail
     refine (H3.out _).mono ?_
     rintro e' w' ⟨rfl, nx, rfl⟩
     go_wp2_with fail
     go_ret
     exact ⟨rfl, grI⟩
end Go.Proofs.YthfalocligkamaaGreatDoor
namespace Go.Proofs.YthfalocligkamaaGreatDoor
open Go Go.RowKit Go.Shelf
def zzh (e : Eff) : Prop := ∀ (w : World) (lim : Nat → Prop) (_ : e.In w lim) (tg d : Int) (_ : 0 ≤ tg ∧ tg ≤ 5) (_ : 0 ≤ d ∧ d ≤ 100),
    Calls Tryz.prog 47 #[.agg e.row, .int .i64 tg, .int .i64 d] w fun r w' => r = .returned (errV (e.chk tg d)) ∧ Grow w w'
def zmq (op who tg : Int) : Bool := who == 2 && (asks op).tg.contains tg
theorem z6m (op n m who : Int) (len : Nat) (s0 tg d : Int) (h : 0 ≤ op ∧ op < 26) (hd : d ≤ 8) : zgd op n m who len s0 tg d = if zk8 op n m who = false then 1 else if zmq op who tg = false ∧ (asks op).wh.contains who = false then 11 else if len < (asks op).lo ∨ (asks op).hi < len then 2 else if op = 20 ∧ zej s0 = false then 2 else 0 := by
 unfold zgd zmq
 rw [if_neg (by omega), if_neg (by omega)]
 have e : (¬ (who = 2 ∧ (asks op).tg.contains tg = true)) ↔ (who == 2 && (asks op).tg.contains tg) = false := by
  by_cases h2 : who = 2 <;> simp [h2]
 simp only [e]
set_option maxRecDepth 100000 in
set_option maxHeartbeats 4000000 in
theorem z53 (w : World) (op n m who : Int) (a : Option Addr) (k c : Nat) (tg d : Int) (h : ¬ (0 ≤ op ∧ op < 26)) :
 Calls Tryz.prog 47 #[.agg (exR op n m who a k c), .int .i64 tg, .int .i64 d] w fun r w' => r = .returned (errV 6) ∧ Grow w w' := by
 have e6 : errV 6 = .iface 66 (.int .i64 6) := rfl
 rw [e6]
 by_cases h0 : op < 0
 · have b0 : decide (op < 0) = true := by simpa using h0
   clear h
   go_enter Tryz.func47, Tryz.ntmps47
   go_wp2_with fail
   go_ret
   exact ⟨rfl, grI⟩
 · have b0 : decide (op < 0) = false := by simpa using h0
   have b1 : decide (26 ≤ op) = true := by simp; omega
   clear h
   go_enter Tryz.func47, Tryz.ntmps47
   go_wp2_with fail
   go_ret
   exact ⟨rfl, grI⟩
set_option maxRecDepth 100000 in
set_option maxHeartbeats 4000000 in
theorem zzw (w : World) (op n m who : Int) (a : Option Addr) (k c : Nat) (tg d : Int) (h : 0 ≤ op ∧ op < 26) (hd : 8 < d) :
 Calls Tryz.prog 47 #[.agg (exR op n m who a k c), .int .i64 tg, .int .i64 d] w fun r w' => r = .returned (errV 3) ∧ Grow w w' := by
 have e3 : errV 3 = .iface 66 (.int .i64 3) := rfl
 rw [e3]
 have b0 : decide (op < 0) = false := by simp; omega
 have b1 : decide (26 ≤ op) = false := by simp; omega
 have b2 : decide (8 < d) = true := by simpa using hd
 clear h hd
 go_enter Tryz.func47, Tryz.ntmps47
 go_wp2_with fail
 go_ret
 exact ⟨rfl, grI⟩
theorem zir (op : Int) : (op = 14 ∧ (asks op).n = ofN op ∧ (asks op).m = 119) ∨ (op = 23 ∧ (asks op).n = 255 ∧ (asks op).m = ofM op) ∨ (op = 25 ∧ (asks op).n = 255 ∧ (asks op).m = ofM op) ∨ ((op == 14) = false ∧ (op == 23) = false ∧ (op == 25) = false ∧ (asks op).n = ofN op ∧ (asks op).m = ofM op) := by
 by_cases h14 : op = 14
 · exact Or.inl ⟨h14, by subst h14; rfl, by subst h14; rfl⟩
 by_cases h23 : op = 23
 · exact Or.inr (Or.inl ⟨h23, by subst h23; rfl, by subst h23; rfl⟩)
 by_cases h25 : op = 25
 · exact Or.inr (Or.inr (Or.inl ⟨h25, by subst h25; rfl, by subst h25; rfl⟩))
 · refine Or.inr (Or.inr (Or.inr ⟨by simpa using h14, by simpa using h23, by simpa using h25, ?_, ?_⟩))
   · unfold asks ofN; simp only; rw [if_neg (show ¬ (op = 23 ∨ op = 25) by omega)]
   · unfold asks ofM; simp only; rw [if_neg h14]
set_option maxRecDepth 100000 in
set_option maxHeartbeats 8000000 in
theorem z52 (w : World) (op n m who : Int) (a : Option Addr) (k c : Nat) (tg d : Int) (h : 0 ≤ op ∧ op < 26) (hd : d ≤ 8) (ht : 0 ≤ tg ∧ tg ≤ 5) (hb : zk8 op n m who = false) :
 Calls Tryz.prog 47 #[.agg (exR op n m who a k c), .int .i64 tg, .int .i64 d] w fun r w' => r = .returned (errV 1) ∧ Grow w w' := by
 have e1 : errV 1 = .iface 66 (.int .i64 1) := rfl
 rw [e1]
 have b0 : decide (op < 0) = false := by simp; omega
 have b1 : decide (26 ≤ op) = false := by simp; omega
 have b2 : decide (8 < d) = false := by simpa using hd
 have HO := Lib.hid (fun W => zhl W op)
 have HT := Lib.hid (fun W => zc1 W (tgN op) tg (by omega) (zoc op))
 have HNB : Hid (∀ W, Calls Tryz.prog 68 #[.agg (exR op n m who a k c), .agg (shR (asks op).sg (asks op).n (asks op).m (whN op) (tgN op) (asks op).lo (asks op).hi)] W fun e w' => e = .returned (.bool false) ∧ Grow W w') := fun W => by
  have := zcv W op n m who a k c (asks op).sg (asks op).n (asks op).m (whN op) (tgN op) (asks op).lo (asks op).hi (by unfold asks; simp only; (repeat' split) <;> decide) (by unfold asks; simp only; (repeat' split) <;> decide)
  have e : zk8 op n m who = (inW n (asks op).n (asks op).sg && inW m (asks op).m (asks op).sg && inW who 4 false && (if op = 23 ∨ op = 25 then decide (n ≤ 255) else if op = 14 then decide (112 ≤ m ∧ m ≤ 119) else true)) := rfl
  rw [← e, hb] at this
  exact this
 have hg := zir op
 clear hb hd ht h
 generalize hasN (tgN op) tg = TB at *
 generalize (asks op).n = N at *
 generalize (asks op).m = M at *
 generalize (asks op).sg = sg at *
 generalize (asks op).lo = lo at *
 generalize (asks op).hi = hi at *
 generalize whN op = wh at *
 generalize tgN op = tgs at *
 generalize ofN op = N0 at *
 generalize ofM op = M0 at *
 cases hw2 : (who == 2)
 all_goals
  rcases hg with ⟨rfl, rfl, rfl⟩ | ⟨rfl, rfl, rfl⟩ | ⟨rfl, rfl, rfl⟩ | ⟨c1, c2, c3, rfl, rfl⟩
  all_goals
   go_enter Tryz.func47, Tryz.ntmps47
   go_wp2_with (first | (go_at_call 66; refine (HO.out _).mono ?_; rintro e' w' ⟨rfl, nx, rfl⟩) | (go_at_call 67; refine (HT.out _).mono ?_; rintro e' w' ⟨rfl, nx, rfl⟩) | (go_at_call 68; refine (HNB.out _).mono ?_; rintro e' w' ⟨rfl, nx, rfl⟩))
   go_ret
   exact ⟨rfl, grI⟩
end Go.Proofs.YthfalocligkamaaGreatDoor
namespace Go.Proofs.YthfalocligkamaaGreatDoor
open Go Go.RowKit Go.Shelf
theorem zdv {op n m who : Int} (h : zk8 op n m who = true) : who = 0 ∨ who = 1 ∨ who = 2 ∨ who = 3 ∨ who = 4 ∨ who = 5 := by
 have := (zwb h).2.2.2
 omega
set_option maxRecDepth 100000 in
set_option maxHeartbeats 16000000 in
theorem z50 (w : World) (op n m who : Int) (a : Option Addr) (k c : Nat) (tg d : Int) (h : 0 ≤ op ∧ op < 26) (hd : d ≤ 8) (ht : 0 ≤ tg ∧ tg ≤ 5) (hb : zk8 op n m who = true) (ha : zmq op who tg = false) (hw : (asks op).wh.contains who = false) :
 Calls Tryz.prog 47 #[.agg (exR op n m who a k c), .int .i64 tg, .int .i64 d] w fun r w' => r = .returned (errV 11) ∧ Grow w w' := by
 have e1 : errV 11 = .iface 66 (.int .i64 11) := rfl
 rw [e1]
 have b0 : decide (op < 0) = false := by simp; omega
 have b1 : decide (26 ≤ op) = false := by simp; omega
 have b2 : decide (8 < d) = false := by simpa using hd
 have HO := Lib.hid (fun W => zhl W op)
 have HT := Lib.hid (fun W => zc1 W (tgN op) tg (by omega) (zoc op))
 have HW := Lib.hid (fun W => zc1 W (whN op) who (zdv hb) (zog op))
 rw [zj4 op who (by have := zdv hb; omega)] at HW
 rw [zmm op tg ht] at HT
 have HNB : Hid (∀ W, Calls Tryz.prog 68 #[.agg (exR op n m who a k c), .agg (shR (asks op).sg (asks op).n (asks op).m (whN op) (tgN op) (asks op).lo (asks op).hi)] W fun e w' => e = .returned (.bool true) ∧ Grow W w') := fun W => by
  have := zcv W op n m who a k c (asks op).sg (asks op).n (asks op).m (whN op) (tgN op) (asks op).lo (asks op).hi (by unfold asks; simp only; (repeat' split) <;> decide) (by unfold asks; simp only; (repeat' split) <;> decide)
  have e : zk8 op n m who = (inW n (asks op).n (asks op).sg && inW m (asks op).m (asks op).sg && inW who 4 false && (if op = 23 ∨ op = 25 then decide (n ≤ 255) else if op = 14 then decide (112 ≤ m ∧ m ≤ 119) else true)) := rfl
  rw [← e, hb] at this
  exact this
 have hg := zir op
 rw [hw] at HW
 by_cases hw2 : who = 2
 · have hT : (asks op).tg.contains tg = false := by unfold zmq at ha; rw [hw2] at ha; simpa using ha
   rw [hT] at HT
   subst hw2
   clear hb hd ht h ha hw hT
   generalize (asks op).n = N at *
   generalize (asks op).m = M at *
   generalize (asks op).sg = sg at *
   generalize (asks op).lo = lo at *
   generalize (asks op).hi = hi at *
   generalize whN op = wh at *
   generalize tgN op = tgs at *
   generalize ofN op = N0 at *
   generalize ofM op = M0 at *
   rcases hg with ⟨rfl, rfl, rfl⟩ | ⟨rfl, rfl, rfl⟩ | ⟨rfl, rfl, rfl⟩ | ⟨c1, c2, c3, rfl, rfl⟩
   all_goals
    go_enter Tryz.func47, Tryz.ntmps47
    go_wp2_with (go_at_call 66; refine (HO.out _).mono ?_; rintro e' w' ⟨rfl, nx, rfl⟩)
    refine (HT.out _).mono ?_
    rintro e' w' ⟨rfl, nt, rfl⟩
    go_wp2_with (go_at_call 68; refine (HNB.out _).mono ?_; rintro e' w' ⟨rfl, nx, rfl⟩)
    refine (HW.out _).mono ?_
    rintro e' w' ⟨rfl, nw, rfl⟩
    go_wp2_with fail
    go_ret
    exact ⟨rfl, grI⟩
 · have b3 : (who == 2) = false := by simpa using hw2
   clear hb hd ht h ha hw hw2
   generalize (asks op).n = N at *
   generalize (asks op).m = M at *
   generalize (asks op).sg = sg at *
   generalize (asks op).lo = lo at *
   generalize (asks op).hi = hi at *
   generalize whN op = wh at *
   generalize tgN op = tgs at *
   generalize ofN op = N0 at *
   generalize ofM op = M0 at *
   rcases hg with ⟨rfl, rfl, rfl⟩ | ⟨rfl, rfl, rfl⟩ | ⟨rfl, rfl, rfl⟩ | ⟨c1, c2, c3, rfl, rfl⟩
   all_goals
    go_enter Tryz.func47, Tryz.ntmps47
    go_wp2_with (first | (go_at_call 66; refine (HO.out _).mono ?_; rintro e' w' ⟨rfl, nx, rfl⟩) | (go_at_call 68; refine (HNB.out _).mono ?_; rintro e' w' ⟨rfl, nx, rfl⟩))
    refine (HW.out _).mono ?_
    rintro e' w' ⟨rfl, nw, rfl⟩
    go_wp2_with fail
    go_ret
    exact ⟨rfl, grI⟩
set_option maxRecDepth 100000 in
set_option maxHeartbeats 16000000 in
theorem z9t (w : World) (op n m who : Int) (a : Option Addr) (k c : Nat) (tg d : Int) (h : 0 ≤ op ∧ op < 26) (hd : d ≤ 8) (ht : 0 ≤ tg ∧ tg ≤ 5) (hb : zk8 op n m who = true) (ha : zmq op who tg = true ∨ (asks op).wh.contains who = true) (hl : k < (asks op).lo) :
 Calls Tryz.prog 47 #[.agg (exR op n m who a k c), .int .i64 tg, .int .i64 d] w fun r w' => r = .returned (errV 2) ∧ Grow w w' := by
 have e1 : errV 2 = .iface 66 (.int .i64 2) := rfl
 rw [e1]
 have b0 : decide (op < 0) = false := by simp; omega
 have b1 : decide (26 ≤ op) = false := by simp; omega
 have b2 : decide (8 < d) = false := by simpa using hd
 have HO := Lib.hid (fun W => zhl W op)
 have HT := Lib.hid (fun W => zc1 W (tgN op) tg (by omega) (zoc op))
 have HW := Lib.hid (fun W => zc1 W (whN op) who (zdv hb) (zog op))
 rw [zj4 op who (by have := zdv hb; omega)] at HW
 rw [zmm op tg ht] at HT
 have HNB : Hid (∀ W, Calls Tryz.prog 68 #[.agg (exR op n m who a k c), .agg (shR (asks op).sg (asks op).n (asks op).m (whN op) (tgN op) (asks op).lo (asks op).hi)] W fun e w' => e = .returned (.bool true) ∧ Grow W w') := fun W => by
  have := zcv W op n m who a k c (asks op).sg (asks op).n (asks op).m (whN op) (tgN op) (asks op).lo (asks op).hi (by unfold asks; simp only; (repeat' split) <;> decide) (by unfold asks; simp only; (repeat' split) <;> decide)
  have e : zk8 op n m who = (inW n (asks op).n (asks op).sg && inW m (asks op).m (asks op).sg && inW who 4 false && (if op = 23 ∨ op = 25 then decide (n ≤ 255) else if op = 14 then decide (112 ≤ m ∧ m ≤ 119) else true)) := rfl
  rw [← e, hb] at this
  exact this
 have hg := zir op
 by_cases hw2 : who = 2
 · cases hT : (asks op).tg.contains tg
   · have hw : (asks op).wh.contains who = true := by
      rcases ha with ha | ha
      · unfold zmq at ha; rw [hw2, hT] at ha; cases ha
      · exact ha
     rw [hw] at HW
     rw [hT] at HT
     subst hw2
     clear hb hd ht h ha hT hw
     generalize (asks op).n = N at *
     generalize (asks op).m = M at *
     generalize (asks op).sg = sg at *
     generalize (asks op).lo = lo at *
     generalize (asks op).hi = hi at *
     generalize whN op = wh at *
     generalize tgN op = tgs at *
     generalize ofN op = N0 at *
     generalize ofM op = M0 at *
     rcases hg with ⟨rfl, rfl, rfl⟩ | ⟨rfl, rfl, rfl⟩ | ⟨rfl, rfl, rfl⟩ | ⟨c1, c2, c3, rfl, rfl⟩
     all_goals
      go_enter Tryz.func47, Tryz.ntmps47
      go_wp2_with (go_at_call 66; refine (HO.out _).mono ?_; rintro e' w' ⟨rfl, nx, rfl⟩)
      refine (HT.out _).mono ?_
      rintro e' w' ⟨rfl, nt, rfl⟩
      go_wp2_with (go_at_call 68; refine (HNB.out _).mono ?_; rintro e' w' ⟨rfl, nx, rfl⟩)
      refine (HW.out _).mono ?_
      rintro e' w' ⟨rfl, nw, rfl⟩
      go_wp2_with fail
      go_ret
      exact ⟨rfl, grI⟩
   · rw [hT] at HT
     subst hw2
     clear hb hd ht h ha hT HW
     generalize (asks op).n = N at *
     generalize (asks op).m = M at *
     generalize (asks op).sg = sg at *
     generalize (asks op).lo = lo at *
     generalize (asks op).hi = hi at *
     generalize whN op = wh at *
     generalize tgN op = tgs at *
     generalize ofN op = N0 at *
     generalize ofM op = M0 at *
     rcases hg with ⟨rfl, rfl, rfl⟩ | ⟨rfl, rfl, rfl⟩ | ⟨rfl, rfl, rfl⟩ | ⟨c1, c2, c3, rfl, rfl⟩
     all_goals
      go_enter Tryz.func47, Tryz.ntmps47
      go_wp2_with (go_at_call 66; refine (HO.out _).mono ?_; rintro e' w' ⟨rfl, nx, rfl⟩)
      refine (HT.out _).mono ?_
      rintro e' w' ⟨rfl, nt, rfl⟩
      go_wp2_with (go_at_call 68; refine (HNB.out _).mono ?_; rintro e' w' ⟨rfl, nx, rfl⟩)
      go_ret
      exact ⟨rfl, grI⟩
 · have hw : (asks op).wh.contains who = true := by
    rcases ha with ha | ha
    · unfold zmq at ha
      rw [show (who == 2) = false by simpa using hw2] at ha
      cases ha
    · exact ha
   rw [hw] at HW
   have b3 : (who == 2) = false := by simpa using hw2
   clear hb hd ht h ha hw2 hw HT
   generalize (asks op).n = N at *
   generalize (asks op).m = M at *
   generalize (asks op).sg = sg at *
   generalize (asks op).lo = lo at *
   generalize (asks op).hi = hi at *
   generalize whN op = wh at *
   generalize tgN op = tgs at *
   generalize ofN op = N0 at *
   generalize ofM op = M0 at *
   rcases hg with ⟨rfl, rfl, rfl⟩ | ⟨rfl, rfl, rfl⟩ | ⟨rfl, rfl, rfl⟩ | ⟨c1, c2, c3, rfl, rfl⟩
   all_goals
    go_enter Tryz.func47, Tryz.ntmps47
    go_wp2_with (first | (go_at_call 66; refine (HO.out _).mono ?_; rintro e' w' ⟨rfl, nx, rfl⟩) | (go_at_call 68; refine (HNB.out _).mono ?_; rintro e' w' ⟨rfl, nx, rfl⟩))
    refine (HW.out _).mono ?_
    rintro e' w' ⟨rfl, nw, rfl⟩
    go_wp2_with fail
    go_ret
    exact ⟨rfl, grI⟩
set_option maxRecDepth 100000 in
set_option maxHeartbeats 16000000 in
theorem z9s (w : World) (op n m who : Int) (a : Option Addr) (k c : Nat) (tg d : Int) (h : 0 ≤ op ∧ op < 26) (hd : d ≤ 8) (ht : 0 ≤ tg ∧ tg ≤ 5) (hb : zk8 op n m who = true) (ha : zmq op who tg = true ∨ (asks op).wh.contains who = true) (hl : (asks op).lo ≤ k) (hm : (asks op).hi < k) :
 Calls Tryz.prog 47 #[.agg (exR op n m who a k c), .int .i64 tg, .int .i64 d] w fun r w' => r = .returned (errV 2) ∧ Grow w w' := by
 have e1 : errV 2 = .iface 66 (.int .i64 2) := rfl
 rw [e1]
 have b0 : decide (op < 0) = false := by simp; omega
 have b1 : decide (26 ≤ op) = false := by simp; omega
 have b2 : decide (8 < d) = false := by simpa using hd
 have HO := Lib.hid (fun W => zhl W op)
 have HT := Lib.hid (fun W => zc1 W (tgN op) tg (by omega) (zoc op))
 have HW := Lib.hid (fun W => zc1 W (whN op) who (zdv hb) (zog op))
 rw [zj4 op who (by have := zdv hb; omega)] at HW
 rw [zmm op tg ht] at HT
 have HNB : Hid (∀ W, Calls Tryz.prog 68 #[.agg (exR op n m who a k c), .agg (shR (asks op).sg (asks op).n (asks op).m (whN op) (tgN op) (asks op).lo (asks op).hi)] W fun e w' => e = .returned (.bool true) ∧ Grow W w') := fun W => by
  have := zcv W op n m who a k c (asks op).sg (asks op).n (asks op).m (whN op) (tgN op) (asks op).lo (asks op).hi (by unfold asks; simp only; (repeat' split) <;> decide) (by unfold asks; simp only; (repeat' split) <;> decide)
  have e : zk8 op n m who = (inW n (asks op).n (asks op).sg && inW m (asks op).m (asks op).sg && inW who 4 false && (if op = 23 ∨ op = 25 then decide (n ≤ 255) else if op = 14 then decide (112 ≤ m ∧ m ≤ 119) else true)) := rfl
  rw [← e, hb] at this
  exact this
 have hg := zir op
 by_cases hw2 : who = 2
 · cases hT : (asks op).tg.contains tg
   · have hw : (asks op).wh.contains who = true := by
      rcases ha with ha | ha
      · unfold zmq at ha; rw [hw2, hT] at ha; cases ha
      · exact ha
     rw [hw] at HW
     rw [hT] at HT
     subst hw2
     clear hb hd ht h ha hT hw
     generalize (asks op).n = N at *
     generalize (asks op).m = M at *
     generalize (asks op).sg = sg at *
     generalize (asks op).lo = lo at *
     generalize (asks op).hi = hi at *
     generalize whN op = wh at *
     generalize tgN op = tgs at *
     generalize ofN op = N0 at *
     generalize ofM op = M0 at *
     rcases hg with ⟨rfl, rfl, rfl⟩ | ⟨rfl, rfl, rfl⟩ | ⟨rfl, rfl, rfl⟩ | ⟨c1, c2, c3, rfl, rfl⟩
     all_goals
      go_enter Tryz.func47, Tryz.ntmps47
      go_wp2_with (go_at_call 66; refine (HO.out _).mono ?_; rintro e' w' ⟨rfl, nx, rfl⟩)
      refine (HT.out _).mono ?_
      rintro e' w' ⟨rfl, nt, rfl⟩
      go_wp2_with (go_at_call 68; refine (HNB.out _).mono ?_; rintro e' w' ⟨rfl, nx, rfl⟩)
      refine (HW.out _).mono ?_
      rintro e' w' ⟨rfl, nw, rfl⟩
      go_wp2_with fail
      go_ret
      exact ⟨rfl, grI⟩
   · rw [hT] at HT
     subst hw2
     clear hb hd ht h ha hT HW
     generalize (asks op).n = N at *
     generalize (asks op).m = M at *
     generalize (asks op).sg = sg at *
     generalize (asks op).lo = lo at *
     generalize (asks op).hi = hi at *
     generalize whN op = wh at *
     generalize tgN op = tgs at *
     generalize ofN op = N0 at *
     generalize ofM op = M0 at *
     rcases hg with ⟨rfl, rfl, rfl⟩ | ⟨rfl, rfl, rfl⟩ | ⟨rfl, rfl, rfl⟩ | ⟨c1, c2, c3, rfl, rfl⟩
     all_goals
      go_enter Tryz.func47, Tryz.ntmps47
      go_wp2_with (go_at_call 66; refine (HO.out _).mono ?_; rintro e' w' ⟨rfl, nx, rfl⟩)
      refine (HT.out _).mono ?_
      rintro e' w' ⟨rfl, nt, rfl⟩
      go_wp2_with (go_at_call 68; refine (HNB.out _).mono ?_; rintro e' w' ⟨rfl, nx, rfl⟩)
      go_ret
      exact ⟨rfl, grI⟩
 · have hw : (asks op).wh.contains who = true := by
    rcases ha with ha | ha
    · unfold zmq at ha
      rw [show (who == 2) = false by simpa using hw2] at ha
      cases ha
    · exact ha
   rw [hw] at HW
   have b3 : (who == 2) = false := by simpa using hw2
   clear hb hd ht h ha hw2 hw HT
   generalize (asks op).n = N at *
   generalize (asks op).m = M at *
   generalize (asks op).sg = sg at *
   generalize (asks op).lo = lo at *
   generalize (asks op).hi = hi at *
   generalize whN op = wh at *
   generalize tgN op = tgs at *
   generalize ofN op = N0 at *
   generalize ofM op = M0 at *
   rcases hg with ⟨rfl, rfl, rfl⟩ | ⟨rfl, rfl, rfl⟩ | ⟨rfl, rfl, rfl⟩ | ⟨c1, c2, c3, rfl, rfl⟩
   all_goals
    go_enter Tryz.func47, Tryz.ntmps47
    go_wp2_with (first | (go_at_call 66; refine (HO.out _).mono ?_; rintro e' w' ⟨rfl, nx, rfl⟩) | (go_at_call 68; refine (HNB.out _).mono ?_; rintro e' w' ⟨rfl, nx, rfl⟩))
    refine (HW.out _).mono ?_
    rintro e' w' ⟨rfl, nw, rfl⟩
    go_wp2_with fail
    go_ret
    exact ⟨rfl, grI⟩
end Go.Proofs.YthfalocligkamaaGreatDoor
