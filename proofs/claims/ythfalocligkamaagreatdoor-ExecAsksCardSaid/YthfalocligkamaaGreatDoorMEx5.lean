/- The walks of exec's players and object. -/
import Derived.Test.YthfalocligkamaaGreatDoorMEx4
import Derived.Test.YthfalocligkamaaGreatDoorMOc
import Derived.Test.YthfalocligkamaaGreatDoorMShuf
namespace Go.Proofs.YthfalocligkamaaGreatDoor
open Go Go.RowKit Go.Shelf
set_option maxRecDepth 100000 in
set_option maxHeartbeats 2000000 in
theorem zoi (w : World) (b : Nat) (x : Ctx) (op n m who : Int) (a : Option Addr) (k c : Nat) (hc : x.ctl = 0 ∨ x.ctl = 1) :
 Calls Tryz.prog 50 #[.agg (doR b x), .agg (exR op n m who a k c)] w fun r w' => ∃ s : Sl, r = .returned s.val ∧ Ints w' s (whomL who x.ctl x.tgt) ∧ (∀ q, s.owns q → w.heap.size ≤ q) ∧ Grow w w' := by
 have h0 : 0 ≤ x.ctl := by omega
 have h1 : x.ctl ≤ 1 := by omega
 have HF := Lib.hid (fun W => zwf W x.ctl h0 h1)
 have HP := Lib.hid (fun W => zp8 W x.tgt)
 obtain ⟨src, ctl, kind, tgt⟩ := x
 simp only at *
 clear hc h0 h1
 by_cases e0 : who = 0
 · subst e0
   have hw : whomL 0 ctl tgt = [ctl] := rfl
   rw [hw]
   clear hw
   go_enter Tryz.func50, Tryz.ntmps50
   go_wp2_with ((go_at_call 35; refine (HF.out _).mono ?_; rintro e' w' ⟨rfl, nx, rfl⟩))
   go_ret
   exact ⟨.mk _ 0 1 1, rfl, zha (by simp only [zac, zaa]) rfl (Grow.refl _), fun q hq => by have hq : q = _ := hq; omega, grI⟩
 by_cases e1 : who = 1
 · subst e1
   have hw : whomL 1 ctl tgt = [1 - ctl] := rfl
   rw [hw]
   clear hw
   go_enter Tryz.func50, Tryz.ntmps50
   go_wp2_with ((go_at_call 35; refine (HF.out _).mono ?_; rintro e' w' ⟨rfl, nx, rfl⟩))
   go_ret
   exact ⟨.mk _ 0 1 1, rfl, zha (by simp only [zac, zaa]) rfl (Grow.refl _), fun q hq => by have hq : q = _ := hq; omega, grI⟩
 by_cases e4 : who = 4
 · subst e4
   have hw : whomL 4 ctl tgt = [ctl, 1 - ctl] := rfl
   rw [hw]
   clear hw
   go_enter Tryz.func50, Tryz.ntmps50
   go_wp2_with ((go_at_call 35; refine (HF.out _).mono ?_; rintro e' w' ⟨rfl, nx, rfl⟩))
   go_ret
   exact ⟨.mk _ 0 2 2, rfl, zha (by simp only [zac, zaa]) rfl (Grow.refl _), fun q hq => by have hq : q = _ := hq; omega, grI⟩
 by_cases e2 : who = 2
 · subst e2
   by_cases ht : tgt = -1 ∨ tgt = -2
   · have hw : whomL 2 ctl tgt = [-1 - tgt] := by unfold whomL; rw [if_neg (by decide), if_neg (by decide), if_neg (by decide), if_pos ⟨rfl, ht⟩]
     rw [hw]
     rw [if_pos ht, decide_eq_true ht] at HP
     clear hw ht
     go_enter Tryz.func50, Tryz.ntmps50
     go_wp2_with (first | (go_at_call 35; refine (HF.out _).mono ?_; rintro e' w' ⟨rfl, nx, rfl⟩) | (go_at_call 28; refine (HP.out _).mono ?_; rintro e' w' ⟨rfl, nx, rfl⟩))
     go_ret
     exact ⟨.mk _ 0 1 1, rfl, zha (by simp only [zac, zaa]) rfl (Grow.refl _), fun q hq => by have hq : q = _ := hq; omega, grI⟩
   · have hw : whomL 2 ctl tgt = [] := by unfold whomL; rw [if_neg (by decide), if_neg (by decide), if_neg (by decide), if_neg (by rintro ⟨_, h⟩; exact ht h)]
     rw [hw]
     rw [if_neg ht, decide_eq_false ht] at HP
     clear hw ht
     go_enter Tryz.func50, Tryz.ntmps50
     go_wp2_with (first | (go_at_call 35; refine (HF.out _).mono ?_; rintro e' w' ⟨rfl, nx, rfl⟩) | (go_at_call 28; refine (HP.out _).mono ?_; rintro e' w' ⟨rfl, nx, rfl⟩))
     go_ret
     exact ⟨.nil, rfl, Ints.nil _, fun q hq => hq.elim, grI⟩
 · have hw : whomL who ctl tgt = [] := by unfold whomL; rw [if_neg e0, if_neg e1, if_neg e4, if_neg (by rintro ⟨h, _⟩; exact e2 h)]
   rw [hw]
   have b0 : (who == 0) = false := by simpa using e0
   have b1 : (who == 1) = false := by simpa using e1
   have b4 : (who == 4) = false := by simpa using e4
   have b2 : (who == 2) = false := by simpa using e2
   clear hw e0 e1 e2 e4
   go_enter Tryz.func50, Tryz.ntmps50
   go_wp2_with (first | (go_at_call 35; refine (HF.out _).mono ?_; rintro e' w' ⟨rfl, nx, rfl⟩))
   go_ret
   exact ⟨.nil, rfl, Ints.nil _, fun q hq => hq.elim, grI⟩
set_option maxRecDepth 100000 in
set_option maxHeartbeats 8000000 in
theorem zuf (w : World) (b : Nat) (own : Nat → Prop) (E : Em) (R : Emt w b own E) {d : List Int} (hQ : Oq d E) (hd : d.length ≤ 1048576) (GL : Glob w) (src ctl kind tgt : Int) (op n m who : Int) (a : Option Addr) (k c : Nat) (ht : tgt ≤ 9223372036854775807)
 (P : Int → Bool → Prop) (hP0 : zmp E.state op who src tgt = none → P 0 false) (hP1 : ∀ q : Nat, z9e who src tgt = some (q : Int) → q < E.state.objs.length → P q (zc9 E.state op q)) :
 Calls Tryz.prog 52 #[.agg (doR b ⟨src, ctl, kind, tgt⟩), .agg (exR op n m who a k c)] w fun r w' => ∃ (id : Int) (is : Bool), r = .returned (.tuple #[.int .i64 id, .bool is]) ∧ P id is ∧ Grow w w' := by
 have HSt := Lib.hid (fun W (g : Grow w W) => zcl W b own E (R.grow g) (hQ.mo hd))
 have HIs := Lib.hid (fun (V : SV) W (g : Grow w W) (r : RepSt W V E.state) id => zm9 E.state V W (hQ.rs (GL.grow g) r) id)
 have HO := Lib.hid (fun W => zp7 W tgt ht)
 have hm400 : E.state.objs.length ≤ 400 := hQ.right.many
 clear R hQ GL
 generalize E.state = S at *
 -- none is aimed at
 by_cases hA : z9e who src tgt = none
 · have HP : Hid (P 0 false) := hP0 (by unfold zmp; rw [hA])
   have h3 : who ≠ 3 := by
    rintro rfl
    unfold z9e at hA
    rw [if_neg (by decide), if_pos rfl] at hA
    cases hA
   have b3 : (who == 3) = false := by simpa using h3
   by_cases h2 : who = 2
   · subst h2
     have ht0 : tgt ≤ 0 := by
      unfold z9e at hA
      rw [if_pos rfl] at hA
      by_cases h : tgt ≤ 0
      · exact h
      · rw [if_neg h] at hA; cases hA
     rw [if_pos ht0, decide_eq_false (by omega)] at HO
     clear hA h3 ht0 hP0 hP1
     go_enter Tryz.func52, Tryz.ntmps52
     go_wp2_with fail
     refine zab (by kernel_rfl) (by kernel_rfl) ?_; (repeat (go_big_quiet_step ( fail ))); refine wpQuiet_nil ?_; rintro _ ⟨nx, rfl⟩
     go_wp2_with (first | (go_at_call 29; refine (HO.out _).mono ?_; rintro e' w' ⟨rfl, nx, rfl⟩))
     refine (HSt.out _ grI).mono ?_
     rintro e' w2 ⟨V, rfl, hR2, hU2, hG2⟩
     replace hG2 := zan hG2
     try replace hG2 := zan hG2
     obtain ⟨nS, rfl⟩ := hG2
     clear hU2
     go_wp2_with fail
     go_ret2
     exact ⟨0, false, rfl, HP.out, grI⟩
   · have b2 : (who == 2) = false := by simpa using h2
     clear hA h3 h2 HO hP0 hP1
     go_enter Tryz.func52, Tryz.ntmps52
     go_wp2_with fail
     refine zab (by kernel_rfl) (by kernel_rfl) ?_; (repeat (go_big_quiet_step ( fail ))); refine wpQuiet_nil ?_; rintro _ ⟨nx, rfl⟩
     go_wp2_with fail
     refine (HSt.out _ grI).mono ?_
     rintro e' w2 ⟨V, rfl, hR2, hU2, hG2⟩
     replace hG2 := zan hG2
     try replace hG2 := zan hG2
     obtain ⟨nS, rfl⟩ := hG2
     clear hU2
     go_wp2_with fail
     go_ret2
     exact ⟨0, false, rfl, HP.out, grI⟩
 -- one is aimed at
 obtain ⟨id, hA⟩ := Option.ne_none_iff_exists'.1 hA
 have hW : (who = 3 ∧ id = src) ∨ (who = 2 ∧ 0 < tgt ∧ id = tgt - 1) := by
  unfold z9e at hA
  by_cases h2 : who = 2
  · rw [if_pos h2] at hA
    by_cases h : tgt ≤ 0
    · rw [if_pos h] at hA; cases hA
    · rw [if_neg h] at hA; injection hA with hA; exact Or.inr ⟨h2, by omega, hA.symm⟩
  · rw [if_neg h2] at hA
    by_cases h3 : who = 3
    · rw [if_pos h3] at hA; injection hA with hA; exact Or.inl ⟨h3, hA.symm⟩
    · rw [if_neg h3] at hA; cases hA
 by_cases hin : 0 ≤ id ∧ id < S.objs.length
 · obtain ⟨q, rfl⟩ := Int.eq_ofNat_of_zero_le hin.1
   have hq : q < S.objs.length := by omega
   have hCB : zc9 S op (q : Int) = if op = 9 then gt (rowAt S.objs q) 3 == 9 && gt (rowAt S.objs q) 13 != 2 else if op = 1 ∨ op = 24 then zam S q else gt (rowAt S.objs q) 3 == 8 := by
    unfold zc9; rw [if_neg (by omega), Int.toNat_natCast]
   have HP := Lib.hid (hP1 q hA hq)
   rw [hCB] at HP
   have hO : Hid (∀ (w1 w2 : World) (nS : Ext) (V : SV), w2 = w1.plus nS → RepSt w2 V S → (∀ k, V.uses k → w1.heap.size ≤ k ∧ k < w2.heap.size) → V.objs.n = S.objs.length ∧ V.objs.b < w1.heap.size + nS.objs.size ∧ ¬ V.objs.b < w1.heap.size ∧ V.objs.o + q * 18 + 18 ≤ (zfd w1 nS V.objs.b).size ∧ sub (zfd w1 nS V.objs.b) (V.objs.o + q * 18) 18 = cellsOf (rowAt S.objs q) ∧ (rowAt S.objs q).length = 18) := by
    rintro w1 w2 nS V rfl hR hU
    obtain ⟨hob, how, hosz, hosub, _⟩ := hR.objs.at (by omega) q hq
    have hge : ¬ V.objs.b < w1.heap.size := by have := (hU _ (Or.inl (Sl.owns_b (by rw [hR.objs.len]; omega)))).1; omega
    rw [ze0, if_neg hge] at hosz hosub
    rw [zac] at hob
    exact ⟨hR.objs.len, hob, hge, hosz, hosub, how⟩
   have hqS : (q : Int) < S.objs.length := by omega
   have hq4 : q ≤ 400 := by omega
   clear hP0 hP1 hA hin hCB
   generalize rowAt S.objs q = row at *
   rcases hW with ⟨rfl, rfl⟩ | ⟨rfl, h0, hid⟩
   · by_cases e9 : op = 9
     · subst e9
       rw [if_pos rfl] at HP
       cases h9 : (gt row 3 == 9)
       · rw [h9, Bool.false_and] at HP
         go_enter Tryz.func52, Tryz.ntmps52
         go_wp2_with fail
         refine zab (by kernel_rfl) (by kernel_rfl) ?_; (repeat (go_big_quiet_step ( fail ))); refine wpQuiet_nil ?_; rintro _ ⟨nx, rfl⟩
         go_wp2_with fail
         refine (HSt.out _ grI).mono ?_
         rintro e' w2 ⟨V, rfl, hR2, hU2, hG2⟩
         replace hG2 := zan hG2
         try replace hG2 := zan hG2
         obtain ⟨nS, rfl⟩ := hG2
         obtain ⟨o1, o2, o3, o4, o5, o6⟩ := hO.out _ _ _ V rfl hR2 (fun k hk => ⟨Nat.le_trans (by simp only [zac, zaa]; omega) (hU2 k hk).1, (hU2 k hk).2⟩)
         have hge2 := o3
         simp only [zaa] at hge2 o2
         have HR2 := Lib.hid hR2
         clear hU2 hR2 hO o3
         go_wp2_with fail
         refine zab (by kernel_rfl) (by kernel_rfl) ?_; (repeat (go_big_quiet_step ( fail ))); refine wpQuiet_nil ?_; rintro _ ⟨nx, rfl⟩
         go_wp2_with fail
         go_ret2
         exact ⟨_, _, rfl, HP.out, grI⟩
       · rw [h9, Bool.true_and] at HP
         go_enter Tryz.func52, Tryz.ntmps52
         go_wp2_with fail
         refine zab (by kernel_rfl) (by kernel_rfl) ?_; (repeat (go_big_quiet_step ( fail ))); refine wpQuiet_nil ?_; rintro _ ⟨nx, rfl⟩
         go_wp2_with fail
         refine (HSt.out _ grI).mono ?_
         rintro e' w2 ⟨V, rfl, hR2, hU2, hG2⟩
         replace hG2 := zan hG2
         try replace hG2 := zan hG2
         obtain ⟨nS, rfl⟩ := hG2
         obtain ⟨o1, o2, o3, o4, o5, o6⟩ := hO.out _ _ _ V rfl hR2 (fun k hk => ⟨Nat.le_trans (by simp only [zac, zaa]; omega) (hU2 k hk).1, (hU2 k hk).2⟩)
         have hge2 := o3
         simp only [zaa] at hge2 o2
         have HR2 := Lib.hid hR2
         clear hU2 hR2 hO o3
         go_wp2_with fail
         refine zab (by kernel_rfl) (by kernel_rfl) ?_; (repeat (go_big_quiet_step ( fail ))); refine wpQuiet_nil ?_; rintro _ ⟨nx, rfl⟩
         go_wp2_with fail
         go_ret2
         exact ⟨_, _, rfl, HP.out, grI⟩
     rw [if_neg e9] at HP
     have b9 : (op == 9) = false := by simpa using e9
     clear e9
     by_cases e1 : op = 1 ∨ op = 24
     · rw [if_pos e1] at HP
       rcases e1 with rfl | rfl
       all_goals
        go_enter Tryz.func52, Tryz.ntmps52
        go_wp2_with fail
        refine zab (by kernel_rfl) (by kernel_rfl) ?_; (repeat (go_big_quiet_step ( fail ))); refine wpQuiet_nil ?_; rintro _ ⟨nx, rfl⟩
        go_wp2_with fail
        refine (HSt.out _ grI).mono ?_
        rintro e' w2 ⟨V, rfl, hR2, hU2, hG2⟩
        replace hG2 := zan hG2
        try replace hG2 := zan hG2
        obtain ⟨nS, rfl⟩ := hG2
        obtain ⟨o1, o2, o3, o4, o5, o6⟩ := hO.out _ _ _ V rfl hR2 (fun k hk => ⟨Nat.le_trans (by simp only [zac, zaa]; omega) (hU2 k hk).1, (hU2 k hk).2⟩)
        have hge2 := o3
        simp only [zaa] at hge2 o2
        have HR2 := Lib.hid hR2
        clear hU2 hR2 hO o3
        go_wp2_with (first | (go_at_call 33; refine (HIs.out V _ grI (HR2.out.grow grI) _).mono ?_; rintro e' w' ⟨rfl, nI, rfl⟩))
        go_ret2
        exact ⟨_, _, rfl, HP.out, grI⟩
     · rw [if_neg e1] at HP
       have b1 : (op == 1) = false := by simpa using fun h => e1 (Or.inl h)
       have b24 : (op == 24) = false := by simpa using fun h => e1 (Or.inr h)
       clear e1
       go_enter Tryz.func52, Tryz.ntmps52
       go_wp2_with fail
       refine zab (by kernel_rfl) (by kernel_rfl) ?_; (repeat (go_big_quiet_step ( fail ))); refine wpQuiet_nil ?_; rintro _ ⟨nx, rfl⟩
       go_wp2_with fail
       refine (HSt.out _ grI).mono ?_
       rintro e' w2 ⟨V, rfl, hR2, hU2, hG2⟩
       replace hG2 := zan hG2
       try replace hG2 := zan hG2
       obtain ⟨nS, rfl⟩ := hG2
       obtain ⟨o1, o2, o3, o4, o5, o6⟩ := hO.out _ _ _ V rfl hR2 (fun k hk => ⟨Nat.le_trans (by simp only [zac, zaa]; omega) (hU2 k hk).1, (hU2 k hk).2⟩)
       have hge2 := o3
       simp only [zaa] at hge2 o2
       have HR2 := Lib.hid hR2
       clear hU2 hR2 hO o3
       go_wp2_with fail
       refine zab (by kernel_rfl) (by kernel_rfl) ?_; (repeat (go_big_quiet_step ( fail ))); refine wpQuiet_nil ?_; rintro _ ⟨nx, rfl⟩
       go_wp2_with fail
       go_ret2
       exact ⟨_, _, rfl, HP.out, grI⟩
   · rw [if_neg (by omega), decide_eq_true h0, ← hid] at HO
     clear hid h0
     by_cases e9 : op = 9
     · subst e9
       rw [if_pos rfl] at HP
       cases h9 : (gt row 3 == 9)
       · rw [h9, Bool.false_and] at HP
         go_enter Tryz.func52, Tryz.ntmps52
         go_wp2_with fail
         refine zab (by kernel_rfl) (by kernel_rfl) ?_; (repeat (go_big_quiet_step ( fail ))); refine wpQuiet_nil ?_; rintro _ ⟨nx, rfl⟩
         go_wp2_with (first | (go_at_call 29; refine (HO.out _).mono ?_; rintro e' w' ⟨rfl, nx, rfl⟩))
         refine (HSt.out _ grI).mono ?_
         rintro e' w2 ⟨V, rfl, hR2, hU2, hG2⟩
         replace hG2 := zan hG2
         try replace hG2 := zan hG2
         obtain ⟨nS, rfl⟩ := hG2
         obtain ⟨o1, o2, o3, o4, o5, o6⟩ := hO.out _ _ _ V rfl hR2 (fun k hk => ⟨Nat.le_trans (by simp only [zac, zaa]; omega) (hU2 k hk).1, (hU2 k hk).2⟩)
         have hge2 := o3
         simp only [zaa] at hge2 o2
         have HR2 := Lib.hid hR2
         clear hU2 hR2 hO o3
         go_wp2_with fail
         refine zab (by kernel_rfl) (by kernel_rfl) ?_; (repeat (go_big_quiet_step ( fail ))); refine wpQuiet_nil ?_; rintro _ ⟨nx, rfl⟩
         go_wp2_with fail
         go_ret2
         exact ⟨_, _, rfl, HP.out, grI⟩
       · rw [h9, Bool.true_and] at HP
         go_enter Tryz.func52, Tryz.ntmps52
         go_wp2_with fail
         refine zab (by kernel_rfl) (by kernel_rfl) ?_; (repeat (go_big_quiet_step ( fail ))); refine wpQuiet_nil ?_; rintro _ ⟨nx, rfl⟩
         go_wp2_with (first | (go_at_call 29; refine (HO.out _).mono ?_; rintro e' w' ⟨rfl, nx, rfl⟩))
         refine (HSt.out _ grI).mono ?_
         rintro e' w2 ⟨V, rfl, hR2, hU2, hG2⟩
         replace hG2 := zan hG2
         try replace hG2 := zan hG2
         obtain ⟨nS, rfl⟩ := hG2
         obtain ⟨o1, o2, o3, o4, o5, o6⟩ := hO.out _ _ _ V rfl hR2 (fun k hk => ⟨Nat.le_trans (by simp only [zac, zaa]; omega) (hU2 k hk).1, (hU2 k hk).2⟩)
         have hge2 := o3
         simp only [zaa] at hge2 o2
         have HR2 := Lib.hid hR2
         clear hU2 hR2 hO o3
         go_wp2_with fail
         refine zab (by kernel_rfl) (by kernel_rfl) ?_; (repeat (go_big_quiet_step ( fail ))); refine wpQuiet_nil ?_; rintro _ ⟨nx, rfl⟩
         go_wp2_with fail
         go_ret2
         exact ⟨_, _, rfl, HP.out, grI⟩
     rw [if_neg e9] at HP
     have b9 : (op == 9) = false := by simpa using e9
     clear e9
     by_cases e1 : op = 1 ∨ op = 24
     · rw [if_pos e1] at HP
       rcases e1 with rfl | rfl
       all_goals
        go_enter Tryz.func52, Tryz.ntmps52
        go_wp2_with fail
        refine zab (by kernel_rfl) (by kernel_rfl) ?_; (repeat (go_big_quiet_step ( fail ))); refine wpQuiet_nil ?_; rintro _ ⟨nx, rfl⟩
        go_wp2_with (first | (go_at_call 29; refine (HO.out _).mono ?_; rintro e' w' ⟨rfl, nx, rfl⟩))
        refine (HSt.out _ grI).mono ?_
        rintro e' w2 ⟨V, rfl, hR2, hU2, hG2⟩
        replace hG2 := zan hG2
        try replace hG2 := zan hG2
        obtain ⟨nS, rfl⟩ := hG2
        obtain ⟨o1, o2, o3, o4, o5, o6⟩ := hO.out _ _ _ V rfl hR2 (fun k hk => ⟨Nat.le_trans (by simp only [zac, zaa]; omega) (hU2 k hk).1, (hU2 k hk).2⟩)
        have hge2 := o3
        simp only [zaa] at hge2 o2
        have HR2 := Lib.hid hR2
        clear hU2 hR2 hO o3
        go_wp2_with (first | (go_at_call 33; refine (HIs.out V _ grI (HR2.out.grow grI) _).mono ?_; rintro e' w' ⟨rfl, nI, rfl⟩))
        go_ret2
        exact ⟨_, _, rfl, HP.out, grI⟩
     · rw [if_neg e1] at HP
       have b1 : (op == 1) = false := by simpa using fun h => e1 (Or.inl h)
       have b24 : (op == 24) = false := by simpa using fun h => e1 (Or.inr h)
       clear e1
       go_enter Tryz.func52, Tryz.ntmps52
       go_wp2_with fail
       refine zab (by kernel_rfl) (by kernel_rfl) ?_; (repeat (go_big_quiet_step ( fail ))); refine wpQuiet_nil ?_; rintro _ ⟨nx, rfl⟩
       go_wp2_with (first | (go_at_call 29; refine (HO.out _).mono ?_; rintro e' w' ⟨rfl, nx, rfl⟩))
       refine (HSt.out _ grI).mono ?_
       rintro e' w2 ⟨V, rfl, hR2, hU2, hG2⟩
       replace hG2 := zan hG2
       try replace hG2 := zan hG2
       obtain ⟨nS, rfl⟩ := hG2
       obtain ⟨o1, o2, o3, o4, o5, o6⟩ := hO.out _ _ _ V rfl hR2 (fun k hk => ⟨Nat.le_trans (by simp only [zac, zaa]; omega) (hU2 k hk).1, (hU2 k hk).2⟩)
       have hge2 := o3
       simp only [zaa] at hge2 o2
       have HR2 := Lib.hid hR2
       clear hU2 hR2 hO o3
       go_wp2_with fail
       refine zab (by kernel_rfl) (by kernel_rfl) ?_; (repeat (go_big_quiet_step ( fail ))); refine wpQuiet_nil ?_; rintro _ ⟨nx, rfl⟩
       go_wp2_with fail
       go_ret2
       exact ⟨_, _, rfl, HP.out, grI⟩
 · have HP : Hid (P 0 false) := hP0 (by unfold zmp; rw [hA]; have : zc9 S op id = false := (by unfold zc9; rw [if_pos hin]); show (if zc9 S op id = true then some id.toNat else none) = none; rw [this]; rfl)
   have bR : 0 ≤ id → (S.objs.length : Int) ≤ id := by omega
   clear hP0 hP1 hA hin
   rcases hW with ⟨rfl, rfl⟩ | ⟨rfl, h0, hid⟩
   · by_cases t0 : id < 0
     · have t1 : decide (id < 0) = true := by simpa using t0
       clear bR
       go_enter Tryz.func52, Tryz.ntmps52
       go_wp2_with fail
       refine zab (by kernel_rfl) (by kernel_rfl) ?_; (repeat (go_big_quiet_step ( fail ))); refine wpQuiet_nil ?_; rintro _ ⟨nx, rfl⟩
       go_wp2_with fail
       refine (HSt.out _ grI).mono ?_
       rintro e' w2 ⟨V, rfl, hR2, hU2, hG2⟩
       replace hG2 := zan hG2
       try replace hG2 := zan hG2
       obtain ⟨nS, rfl⟩ := hG2
       clear hU2
       go_wp2_with fail
       go_ret2
       exact ⟨0, false, rfl, HP.out, grI⟩
     · have t1 : decide (id < 0) = false := by simpa using t0
       have t2 : (S.objs.length : Int) ≤ id := bR (by omega)
       clear bR
       go_enter Tryz.func52, Tryz.ntmps52
       go_wp2_with fail
       refine zab (by kernel_rfl) (by kernel_rfl) ?_; (repeat (go_big_quiet_step ( fail ))); refine wpQuiet_nil ?_; rintro _ ⟨nx, rfl⟩
       go_wp2_with fail
       refine (HSt.out _ grI).mono ?_
       rintro e' w2 ⟨V, rfl, hR2, hU2, hG2⟩
       replace hG2 := zan hG2
       try replace hG2 := zan hG2
       obtain ⟨nS, rfl⟩ := hG2
       have hon := hR2.objs.len
       clear hU2
       go_wp2_with fail
       go_ret2
       exact ⟨0, false, rfl, HP.out, grI⟩
   · rw [if_neg (by omega), decide_eq_true h0, ← hid] at HO
     clear hid h0
     by_cases t0 : id < 0
     · have t1 : decide (id < 0) = true := by simpa using t0
       clear bR
       go_enter Tryz.func52, Tryz.ntmps52
       go_wp2_with fail
       refine zab (by kernel_rfl) (by kernel_rfl) ?_; (repeat (go_big_quiet_step ( fail ))); refine wpQuiet_nil ?_; rintro _ ⟨nx, rfl⟩
       go_wp2_with (first | (go_at_call 29; refine (HO.out _).mono ?_; rintro e' w' ⟨rfl, nx, rfl⟩))
       refine (HSt.out _ grI).mono ?_
       rintro e' w2 ⟨V, rfl, hR2, hU2, hG2⟩
       replace hG2 := zan hG2
       try replace hG2 := zan hG2
       obtain ⟨nS, rfl⟩ := hG2
       clear hU2
       go_wp2_with fail
       go_ret2
       exact ⟨0, false, rfl, HP.out, grI⟩
     · have t1 : decide (id < 0) = false := by simpa using t0
       have t2 : (S.objs.length : Int) ≤ id := bR (by omega)
       clear bR
       go_enter Tryz.func52, Tryz.ntmps52
       go_wp2_with fail
       refine zab (by kernel_rfl) (by kernel_rfl) ?_; (repeat (go_big_quiet_step ( fail ))); refine wpQuiet_nil ?_; rintro _ ⟨nx, rfl⟩
       go_wp2_with (first | (go_at_call 29; refine (HO.out _).mono ?_; rintro e' w' ⟨rfl, nx, rfl⟩))
       refine (HSt.out _ grI).mono ?_
       rintro e' w2 ⟨V, rfl, hR2, hU2, hG2⟩
       replace hG2 := zan hG2
       try replace hG2 := zan hG2
       obtain ⟨nS, rfl⟩ := hG2
       have hon := hR2.objs.len
       clear hU2
       go_wp2_with fail
       go_ret2
       exact ⟨0, false, rfl, HP.out, grI⟩
theorem zqb (w : World) (b : Nat) (own : Nat → Prop) (E : Em) (R : Emt w b own E) {d : List Int} (hQ : Oq d E) (hd : d.length ≤ 1048576) (GL : Glob w) (x : Ctx) (op n m who : Int) (a : Option Addr) (k c : Nat) (ht : x.tgt ≤ 9223372036854775807) :
 Calls Tryz.prog 52 #[.agg (doR b x), .agg (exR op n m who a k c)] w fun r w' => (∃ q : Nat, r = .returned (.tuple #[.int .i64 (q : Int), .bool true]) ∧ zmp E.state op who x.src x.tgt = some q ∧ Grow w w') ∨ (∃ id : Int, r = .returned (.tuple #[.int .i64 id, .bool false]) ∧ zmp E.state op who x.src x.tgt = none ∧ Grow w w') := by
 refine (zuf w b own E R hQ hd GL x.src x.ctl x.kind x.tgt op n m who a k c ht (fun id is => (is = true → ∃ q : Nat, id = q ∧ zmp E.state op who x.src x.tgt = some q) ∧ (is = false → zmp E.state op who x.src x.tgt = none)) (fun h => ⟨fun h => (by cases h), fun _ => h⟩) (fun q hA hq => ?_)).mono ?_
 · unfold zmp
   rw [hA]
   show _ ∧ (_ → (if zc9 E.state op (q : Int) = true then some (q : Int).toNat else none) = none)
   refine ⟨fun h => ⟨q, rfl, ?_⟩, fun h => ?_⟩
   · show (if zc9 E.state op (q : Int) = true then some (q : Int).toNat else none) = some q
     rw [if_pos h, Int.toNat_natCast]
   · rw [h]; rfl
 · rintro _ w' ⟨id, is, rfl, h, g⟩
   cases is
   · exact Or.inr ⟨id, rfl, h.2 rfl, g⟩
   · obtain ⟨q, rfl, hq⟩ := h.1 rfl
     exact Or.inl ⟨q, rfl, hq, g⟩
end Go.Proofs.YthfalocligkamaaGreatDoor
namespace Go.Proofs.YthfalocligkamaaGreatDoor
open Go Go.RowKit Go.Shelf
theorem zjp (w : World) (b : Nat) (own : Nat → Prop) (E : Em) (R : Emt w b own E) (H : Mo E) (p more : Int) :
 Calls Tryz.prog 71 #[.pointer (some ⟨b, 0, none⟩), .int .i64 p, .int .i64 more] w fun r w' => r = .returned (.tuple #[]) ∧ EPost w b own (E.life p more) w' := by
 by_cases he : E.err = 0
 · exact zv4 w b own E R he 131072 (H.get he).ok (by omega) (H.get he).nums p more
 · have e1 : E.life p more = E := by unfold Em.life; rw [if_pos he]
   rw [e1]
   refine (zv5 w _ E.err he (zcp R) p more).mono ?_
   rintro _ w' ⟨rfl, g⟩
   exact ⟨rfl, R.stay g⟩
theorem zw9 (w : World) (b : Nat) (own : Nat → Prop) (E : Em) (R : Emt w b own E) (H : Mo E) (p l more : Int) :
 Calls Tryz.prog 79 #[.pointer (some ⟨b, 0, none⟩), .int .i64 p, .int .i64 l, .int .i64 more] w fun r w' => r = .returned (.tuple #[]) ∧ EPost w b own (E.mana p l more) w' := by
 by_cases he : E.err = 0
 · exact zv7 w b own E R he 131072 (H.get he).ok (by omega) (H.get he).nums p l more
 · have e1 : E.mana p l more = E := by unfold Em.mana; rw [if_pos he]
   rw [e1]
   refine (zv8 w _ E.err he (zcp R) p l more).mono ?_
   rintro _ w' ⟨rfl, g⟩
   exact ⟨rfl, R.stay g⟩
theorem zxa (w : World) (b : Nat) (own : Nat → Prop) (E : Em) (R : Emt w b own E) (H : Mo E) (n : Int) (hn : n ≤ 9223372036854775807) :
 Calls Tryz.prog 114 #[.pointer (some ⟨b, 0, none⟩), .int .i64 n] w fun r w' => r = .returned (.int .i64 (E.picked n)) ∧ EPost w b own (E.pick n) w' := by
 by_cases he : E.err = 0
 · exact zse w b own E R he 131072 (H.get he).ok (by omega) (H.get he).draws (H.get he).cur n hn
 · have e1 : E.pick n = E := by unfold Em.pick; rw [if_pos he]
   have e2 : E.picked n = 0 := by unfold Em.picked; rw [e1, if_pos he]
   rw [e1, e2]
   refine (zv9 w _ E.err he (zcp R) n).mono ?_
   rintro _ w' ⟨rfl, g⟩
   exact ⟨rfl, R.stay g⟩
theorem zxe (w : World) (b : Nat) (own : Nat → Prop) (E : Em) (R : Emt w b own E) (H : Mo E) (a p : Int) :
 Calls Tryz.prog 107 #[.pointer (some ⟨b, 0, none⟩), .int .i64 a, .int .i64 p] w fun r w' => r = .returned (.tuple #[]) ∧ EPost w b own (E.show a p) w' := by
 by_cases he : E.err = 0
 · exact zes w b own E R 131072 (H.get he).ok (by omega) a p
 · rw [zmi he]
   refine (zwa w _ E.err he (zcp R) a p).mono ?_
   rintro _ w' ⟨rfl, g⟩
   exact ⟨rfl, R.stay g⟩
theorem zni (w : World) (b : Nat) (own : Nat → Prop) (E : Em) (R : Emt w b own E) (H : Mo E) (p : Int) :
 Calls Tryz.prog 81 #[.pointer (some ⟨b, 0, none⟩), .int .i64 p] w fun r w' => r = .returned (.tuple #[]) ∧ EPost w b own (E.shuffle p) w' := by
 by_cases he : E.err = 0
 · exact zmz w b own E R he 131072 (H.get he).ok (by omega) (H.get he).draws (H.get he).cur p
 · have e1 : E.shuffle p = E := by unfold Em.shuffle; rw [if_pos he]
   rw [e1]
   refine (zm0 w _ E.err he (zcp R) p).mono ?_
   rintro _ w' ⟨rfl, g⟩
   exact ⟨rfl, R.stay g⟩
end Go.Proofs.YthfalocligkamaaGreatDoor
namespace Go.Proofs.YthfalocligkamaaGreatDoor
open Go Go.RowKit Go.Shelf
set_option maxRecDepth 100000 in
set_option maxHeartbeats 4000000 in
theorem z4m (w : World) (b : Nat) (own : Nat → Prop) (E : Em) (R : Emt w b own E) (H : Mo E) (x : Ctx) (q f : Nat) (more : Int) (hf : f < 18) (hq : E.err = 0 → q < E.now.objs.length) (hv : E.err = 0 → -2147483648 ≤ gt (rowAt E.now.objs q) f ∧ gt (rowAt E.now.objs q) f ≤ 2147483648) (hm : -1099511627776 ≤ more ∧ more ≤ 1099511627776) :
 Calls Tryz.prog 84 #[.agg (doR b x), .int .i64 (q : Int), .int .i64 (f : Int), .int .i64 more] w fun r w' => r = .returned (.tuple #[]) ∧ EPost w b own (E.add q f more) w' := by
 have HSt := Lib.hid (fun W (g : Grow w W) => zcl W b own E (R.grow g) H)
 have HR := Lib.hid R
 by_cases he : E.err = 0
 · have hst : E.state = E.now := by unfold Em.state; rw [if_neg (by rw [he]; simp)]
   have HEr := Lib.hid (fun W (g : Grow w W) => by have := zas W b own E (R.grow g); rw [he, za4] at this; exact this)
   have hadd : E.add q f more = E.setObj q f (max (min (gt (rowAt E.now.objs q) f + more) 1073741824) (-1073741824)) := by unfold Em.add betw; rw [if_neg (by rw [he]; simp)]
   have hSet := fun W (g : Grow w W) => zhb W b own E (R.grow g) H q f (max (min (gt (rowAt E.now.objs q) f + more) 1073741824) (-1073741824))
   rw [← hadd] at hSet
   have hq := hq he
   obtain ⟨v0, v1⟩ := hv he
   have hO : Hid (∀ (w1 : World) (nS : Ext) (V : SV), RepSt (w1.plus nS) V E.now → (∀ k, V.uses k → w1.heap.size ≤ k ∧ k < (w1.plus nS).heap.size) → V.objs.n = E.now.objs.length ∧ V.objs.b < w1.heap.size + nS.objs.size ∧ ¬ V.objs.b < w1.heap.size ∧ zc8 w1 nS V.objs.b (V.objs.o + q * 18 + f) = some (I (gt (rowAt E.now.objs q) f))) := by
    intro w1 nS V hR hU
    obtain ⟨hob, how, hosz, hosub, hoc⟩ := hR.objs.at (by omega) q hq
    have hge : ¬ V.objs.b < w1.heap.size := by have := (hU _ (Or.inl (Sl.owns_b (by rw [hR.objs.len]; omega)))).1; omega
    have hoc := hoc f hf
    rw [zd6, if_neg hge] at hoc
    rw [zac] at hob
    exact ⟨hR.objs.len, hob, hge, hoc⟩
   rw [hst] at HSt
   have HSet := Lib.hid hSet
   clear R H hst hadd hSet hv
   have hqS : (q : Int) < E.now.objs.length := by omega
   have hq0 : (0 : Int) ≤ (q : Int) := by omega
   have hf18 : (f : Int) < 18 := by omega
   have hf0 : (0 : Int) ≤ (f : Int) := by omega
   generalize E.now = S at *
   generalize E.add q f more = E2 at *
   generalize gt (rowAt S.objs q) f = v at *
   go_enter Tryz.func84, Tryz.ntmps84
   go_wp2_with fail
   refine (HSt.out _ grI).mono ?_
   rintro e' w2 ⟨V, rfl, hR2, hU2, nS, rfl⟩
   obtain ⟨o1, o2, o3, o4⟩ := hO.out _ _ V hR2 hU2
   have hge2 := o3
   simp only [zaa] at hge2 o2
   clear hU2 hR2 hO o3 HSt
   obtain ⟨m0, m1⟩ := hm
   go_wp2_with (go_at_call 17; refine (HEr.out _ grI).mono ?_; rintro e' w' ⟨rfl, nx, rfl⟩)
   refine (HSet.out _ grI).mono ?_
   rintro e' w3 ⟨rfl, hE⟩
   have HE := Lib.hid hE
   clear hE
   go_wp2_with fail
   go_end0
   exact ⟨rfl, EPost.low grI HE.out⟩
 · have HEr := Lib.hid (fun W (g : Grow w W) => by have := zas W b own E (R.grow g); rw [zap he] at this; exact this)
   have hadd : E.add q f more = E := by unfold Em.add; rw [if_pos he]
   rw [hadd]
   clear R H hadd hq hv
   go_enter Tryz.func84, Tryz.ntmps84
   go_wp2_with fail
   refine (HSt.out _ grI).mono ?_
   rintro e' w2 ⟨V, rfl, hR2, hU2, nS, rfl⟩
   clear hU2 hR2 HSt
   go_wp2_with (go_at_call 17; refine (HEr.out _ grI).mono ?_; rintro e' w' ⟨rfl, nx, rfl⟩)
   refine bodyPost_ret (results_none rfl _ _ _) rfl ?_
   exact ⟨rfl, HR.out.stay grI⟩
set_option maxRecDepth 100000 in
set_option maxHeartbeats 4000000 in
theorem zza (w : World) (b : Nat) (own : Nat → Prop) (E : Em) (R : Emt w b own E) {d : List Int} (hQ : Oq d E) (hd : d.length ≤ 1048576) (GL : GlobE w own) (x : Ctx) (p : Nat) (hp : p < 2) :
 Calls Tryz.prog 76 #[.agg (doR b x), .int .i64 (p : Int)] w fun r w' => r = .returned (.tuple #[]) ∧ EPost w b own (E.mill p) w' := by
 have HSt := Lib.hid (fun W (g : Grow w W) => zcl W b own E (R.grow g) (hQ.mo hd))
 have hl : (E.state.list p).length ≤ 400 := hQ.right.smallN.list p (by omega)
 have HTop := Lib.hid (fun (V : SV) W (r : RepSt W V E.state) => zj2 E.state V W r p (by omega) (by omega))
 have HPut := fun W (g : Grow w W) => ze3 W b own E (R.grow g) (hQ.mo hd) (GL.grow g)
 have HR := Lib.hid R
 have hp2 : (p : Int) < 2 := by omega
 unfold Em.mill
 by_cases hL : E.state.list p = []
 · rw [if_pos hL]
   rw [if_pos hL, decide_eq_false (fun h => h hL)] at HTop
   clear R hQ GL hL hl HPut
   generalize E.state = S at *
   go_enter Tryz.func76, Tryz.ntmps76
   go_wp2_with (first | (go_at_call 18; refine (HSt.out _ grI).mono ?_; rintro e' w2 ⟨V, rfl, hR2, hU2, nS, rfl⟩; have HR2 := Lib.hid hR2; clear hR2 hU2) | (go_at_call 104; refine (HTop.out V _ (HR2.out.grow grI)).mono ?_; rintro e' w3 ⟨rfl, nT, rfl⟩))
   go_end0
   exact ⟨rfl, HR.out.stay grI⟩
 · rw [if_neg hL]
   rw [if_neg hL, decide_eq_true hL] at HTop
   have HPut := Lib.hid (fun W (g : Grow w W) => HPut W g (gt (E.state.list p) ((E.state.list p).length - 1)) 4)
   clear R hQ GL hL hl
   generalize E.state = S at *
   generalize gt (S.list p) ((S.list p).length - 1) = id at *
   generalize E.put id 4 = E2 at *
   go_enter Tryz.func76, Tryz.ntmps76
   go_wp2_with (first | (go_at_call 18; refine (HSt.out _ grI).mono ?_; rintro e' w2 ⟨V, rfl, hR2, hU2, nS, rfl⟩; have HR2 := Lib.hid hR2; clear hR2 hU2) | (go_at_call 104; refine (HTop.out V _ (HR2.out.grow grI)).mono ?_; rintro e' w3 ⟨rfl, nT, rfl⟩))
   refine (HPut.out _ grI).mono ?_
   rintro e' w4 ⟨rfl, hE⟩
   have HE := Lib.hid hE
   clear hE
   go_wp2_with fail
   go_end0
   exact ⟨rfl, EPost.low grI HE.out⟩
set_option maxRecDepth 100000 in
set_option maxHeartbeats 4000000 in
theorem zug (w : World) (b : Nat) (own : Nat → Prop) (E : Em) (R : Emt w b own E) {d : List Int} (hQ : Oq d E) (hd : d.length ≤ 1048576) (GL : GlobE w own) (x : Ctx) (p c : Int) :
 Calls Tryz.prog 78 #[.agg (doR b x), .int .i64 p, .int .i64 c] w fun r w' => r = .returned (.tuple #[]) ∧ EPost w b own (E.token p c) w' := by
 have HMk := Lib.hid (fun W (g : Grow w W) => zw8 W b own E (R.grow g) (hQ.mo hd) c p 1)
 have hQ1 := hQ.make c p 1
 have HM1 := Lib.hid (hQ1.mo hd)
 have HR := Lib.hid R
 have HGL := Lib.hid GL
 unfold Em.token
 clear R hQ GL hQ1
 generalize E.made c p 1 = id at *
 by_cases h1 : (E.make c p 1).err = 0
 · rw [if_neg (by rw [h1]; simp)]
   generalize E.make c p 1 = E1 at *
   have H1 := Lib.hid h1
   clear h1
   go_enter Tryz.func78, Tryz.ntmps78
   go_wp2_with fail
   refine (HMk.out _ grI).mono ?_
   rintro e' w1 ⟨rfl, hE⟩
   have hg0 : Grow w (w.alloc (.cells (doR b x) 70)) := grI
   obtain ⟨own1, T1⟩ := (Turn.first (HR.out.grow hg0)).step (Grow.refl _) hE
   have HEr := Lib.hid (fun W (g : Grow w1 W) => by have := zas W b own1 E1 (T1.em.grow g); rw [H1.out, za4] at this; exact this)
   have HP := Lib.hid (fun W (g : Grow w1 W) => ze3 W b own1 E1 (T1.em.grow g) HM1.out ((T1.glob (HGL.out.grow hg0)).grow g) id 8)
   obtain ⟨hb1, hb2, hb3⟩ := (Boxd.new w (doR b x) 70).kept T1.kept (fun h => by have := HR.out.lt _ h; omega)
   have HT1 := Lib.hid T1
   have HG0 := Lib.hid hg0
   clear hE T1 HMk hg0
   go_wp2_with (go_at_call 17; refine (HEr.out _ grI).mono ?_; rintro e' w' ⟨rfl, nx, rfl⟩)
   refine (HP.out _ grI).mono ?_
   rintro e' w2 ⟨rfl, hE⟩
   obtain ⟨own2, T2⟩ := HT1.out.step grI hE
   have HT2 := Lib.hid T2
   clear hE T2
   go_wp2_with fail
   go_end0
   exact ⟨rfl, HT2.out.post HG0.out⟩
 · rw [if_pos h1]
   generalize E.make c p 1 = E1 at *
   have H1 := Lib.hid h1
   clear h1
   go_enter Tryz.func78, Tryz.ntmps78
   go_wp2_with fail
   refine (HMk.out _ grI).mono ?_
   rintro e' w1 ⟨rfl, hE⟩
   have hg0 : Grow w (w.alloc (.cells (doR b x) 70)) := grI
   obtain ⟨own1, T1⟩ := (Turn.first (HR.out.grow hg0)).step (Grow.refl _) hE
   have HEr := Lib.hid (fun W (g : Grow w1 W) => by have := zas W b own1 E1 (T1.em.grow g); rw [zap H1.out] at this; exact this)
   obtain ⟨hb1, hb2, hb3⟩ := (Boxd.new w (doR b x) 70).kept T1.kept (fun h => by have := HR.out.lt _ h; omega)
   have HT1 := Lib.hid T1
   have HG0 := Lib.hid hg0
   clear hE T1 HMk hg0
   go_wp2_with (go_at_call 17; refine (HEr.out _ grI).mono ?_; rintro e' w' ⟨rfl, nx, rfl⟩)
   go_end0
   exact ⟨rfl, (HT1.out.post HG0.out).more grI⟩
theorem zxh {E : Em} {n : Int} (h : (E.pick n).err = 0) : 0 ≤ E.picked n ∧ E.picked n < n := by
 have he : E.err = 0 := by
  by_cases he : E.err = 0
  · exact he
  · rw [zhy he] at h; exact h
 have hp : (zeb E.draws (E.now.num 23) n).2.2 = 0 := by
  by_cases h0 : (zeb E.draws (E.now.num 23) n).2.2 = 0
  · exact h0
  · exfalso
    unfold Em.pick at h
    rw [if_neg (by rw [he]; simp)] at h
    have h1 := zwd E _ h0
    rw [zgm h1] at h
    exact h1 h
 unfold Em.picked
 rw [if_neg (by rw [h]; simp)]
 unfold zeb at hp ⊢
 split at hp
 · cases hp
 split at hp
 · cases hp
 split at hp
 · cases hp
 · rename_i h1 h2 h3
   rw [if_neg h1, if_neg h2, if_neg h3]
   exact ziy _ _ (by omega)
set_option maxRecDepth 100000 in
set_option maxHeartbeats 4000000 in
theorem zoh (w : World) (b : Nat) (own : Nat → Prop) (E : Em) (R : Emt w b own E) {d : List Int} (hQ : Oq d E) (hd : d.length ≤ 1048576) (GL : GlobE w own) (x : Ctx) (p : Nat) (hp : p = 0 ∨ p = 1) :
 Calls Tryz.prog 83 #[.agg (doR b x), .int .i64 (p : Int)] w fun r w' => r = .returned (.tuple #[]) ∧ EPost w b own (E.discard p) w' := by
 have HSt := Lib.hid (fun W (g : Grow w W) => zcl W b own E (R.grow g) (hQ.mo hd))
 have hl : (E.state.list (2 + p)).length ≤ 400 := hQ.right.smallN.list (2 + p) (by omega)
 have hQ1 := hQ.pick ((E.state.list (2 + p)).length : Int)
 have HPk := Lib.hid (fun W (g : Grow w W) => zxa W b own E (R.grow g) (hQ.mo hd) ((E.state.list (2 + p)).length : Int) (by omega))
 have HM1 := Lib.hid (hQ1.mo hd)
 have HR := Lib.hid R
 have HGL := Lib.hid GL
 have HIn := Lib.hid (fun h => zxh (E := E) (n := ((E.state.list (2 + p)).length : Int)) h)
 have HV := Lib.hid (fun (V : SV) W (r : RepSt W V E.state) => r.list (2 + p) (by omega))
 unfold Em.discard
 clear R hQ GL hQ1
 generalize E.state.list (2 + p) = l at *
 have hlen := hl
 by_cases hL : l = []
 · rw [if_pos hL]
   subst hL
   clear HPk HM1 HIn hl
   rcases hp with rfl | rfl
   all_goals
    go_enter Tryz.func83, Tryz.ntmps83
    go_wp2_with fail
    refine (HSt.out _ grI).mono ?_
    rintro e' w2 ⟨V, rfl, hR2, hU2, nS, rfl⟩
    have hn := (HV.out V _ hR2).len
    clear hR2 hU2
    go_wp2_with fail
    refine bodyPost_ret (results_none rfl _ _ _) rfl ?_
    exact ⟨rfl, HR.out.stay grI⟩
 · rw [if_neg hL]
   have hl0 : 0 < l.length := List.length_pos_iff.2 hL
   have hl0' : (0 : Int) < l.length := by omega
   clear hL
   by_cases h1 : (E.pick (l.length : Int)).err = 0
   · rw [if_neg (by rw [h1]; simp)]
     obtain ⟨k0, k1⟩ := HIn.out h1
     generalize E.picked (l.length : Int) = kk at *
     obtain ⟨k, rfl⟩ := Int.eq_ofNat_of_zero_le k0
     rw [Int.toNat_natCast]
     have hk : k < l.length := by omega
     generalize E.pick (l.length : Int) = E1 at *
     have H1 := Lib.hid h1
     clear h1 HIn
     have HPo : Hid (∀ (W : World) (own1 : Nat → Prop) (R : Emt W b own1 E1) (G : GlobE W own1), Calls Tryz.prog 85 #[.pointer (some ⟨b, 0, none⟩), .int .i64 (gt l k), .int .i64 4] W fun r w' => r = .returned (.tuple #[]) ∧ EPost W b own1 (E1.put (gt l k) 4) w') := fun W own1 R G => ze3 W b own1 E1 R HM1.out G (gt l k) 4
     generalize E1.put (gt l k) 4 = E2 at *
     have hk400 : k ≤ 400 := by omega
     rcases hp with rfl | rfl
     all_goals
      go_enter Tryz.func83, Tryz.ntmps83
      go_wp2_with fail
      refine (HSt.out _ grI).mono ?_
      rintro e' w2 ⟨V, rfl, hR2, hU2, hG2⟩
      have hI := HV.out V _ hR2
      have hn := hI.len
      have hap := fun hl => (hU2 _ (Or.inr ⟨_, by decide, zbs hI hl⟩)).1
      have HI := Lib.hid hI
      have hb0 := (Boxd.new w (doR b x) 70).grow hG2
      have hg0 : Grow w w2 := Grow.trans grI hG2
      simp only [zaa] at hap
      clear hR2 hU2 hG2 hI HSt
      obtain ⟨hb1, hb2, hb3⟩ := hb0
      go_wp2_with fail
      refine (HPk.out _ hg0).mono ?_
      rintro e' w3 ⟨rfl, hE⟩
      obtain ⟨own1, T1⟩ := (Turn.first (HR.out.grow hg0)).step (Grow.refl _) hE
      have HEr := Lib.hid (fun W (g : Grow w3 W) => by have := zas W b own1 E1 (T1.em.grow g); rw [H1.out, za4] at this; exact this)
      obtain ⟨hc1, hc2, hc3⟩ := (Boxd.mk hb1 hb2 hb3).kept T1.kept (fun h => by have := HR.out.lt _ h; omega)
      have hat := (HI.out.kept T1.kept (fun hl h => by have := HR.out.lt _ h; have := hap hl; omega)).at k hk
      obtain ⟨hat1, hat2⟩ := hat
      have HT1 := Lib.hid T1
      have HG0 := Lib.hid hg0
      have HPp := Lib.hid (fun W (g : Grow w3 W) => HPo.out W own1 (T1.em.grow g) ((T1.glob (HGL.out.grow hg0)).grow g))
      clear hE T1 HPk hg0 HI hb1 hb2 hb3 hap HPo
      go_wp2_with (go_at_call 17; refine (HEr.out _ grI).mono ?_; rintro e' w' ⟨rfl, nx, rfl⟩)
      refine zat [0, 1, 2, 3, 4, 5] 6 [] (by kernel_rfl) (by kernel_rfl) ?_; simp only [zby, List.getElem?_cons_zero, List.getElem?_cons_succ]; (repeat (go_big_quiet_step ( fail ))); refine wpQuiet_nil ?_; rintro _ ⟨nx, rfl⟩
      go_wp2_with (go_at_call 85; refine (HPp.out _ grI).mono ?_; rintro e' w4 ⟨rfl, hE⟩; have HE := Lib.hid hE; clear hE)
      go_end0
      obtain ⟨own2, T2⟩ := HT1.out.step grI HE.out
      exact ⟨rfl, T2.post HG0.out⟩
   · rw [if_pos h1]
     generalize E.pick (l.length : Int) = E1 at *
     generalize E.picked (l.length : Int) = kk at *
     have H1 := Lib.hid h1
     clear h1 HIn HM1
     rcases hp with rfl | rfl
     all_goals
      go_enter Tryz.func83, Tryz.ntmps83
      go_wp2_with fail
      refine (HSt.out _ grI).mono ?_
      rintro e' w2 ⟨V, rfl, hR2, hU2, hG2⟩
      have hn := (HV.out V _ hR2).len
      have hb0 := (Boxd.new w (doR b x) 70).grow hG2
      have hg0 : Grow w w2 := Grow.trans grI hG2
      clear hR2 hU2 hG2 HSt
      obtain ⟨hb1, hb2, hb3⟩ := hb0
      go_wp2_with fail
      refine (HPk.out _ hg0).mono ?_
      rintro e' w3 ⟨rfl, hE⟩
      obtain ⟨own1, T1⟩ := (Turn.first (HR.out.grow hg0)).step (Grow.refl _) hE
      have HEr := Lib.hid (fun W (g : Grow w3 W) => by have := zas W b own1 E1 (T1.em.grow g); rw [zap H1.out] at this; exact this)
      obtain ⟨hc1, hc2, hc3⟩ := (Boxd.mk hb1 hb2 hb3).kept T1.kept (fun h => by have := HR.out.lt _ h; omega)
      have HT1 := Lib.hid T1
      have HG0 := Lib.hid hg0
      clear hE T1 HPk hg0 hb1 hb2 hb3
      go_wp2_with (go_at_call 17; refine (HEr.out _ grI).mono ?_; rintro e' w' ⟨rfl, nx, rfl⟩)
      go_end0
      exact ⟨rfl, (HT1.out.post HG0.out).more grI⟩
end Go.Proofs.YthfalocligkamaaGreatDoor
namespace Go.Proofs.YthfalocligkamaaGreatDoor
open Go Go.RowKit Go.Shelf
set_option maxRecDepth 100000 in
set_option maxHeartbeats 4000000 in
theorem zj5 (w : World) (b : Nat) (own : Nat → Prop) (E : Em) (R : Emt w b own E) {d : List Int} (hQ : Oq d E) (hd : d.length ≤ 1048576) (x : Ctx) (p : Nat) (hp : p = 0 ∨ p = 1) (many pl : Int) :
 Calls Tryz.prog 80 #[.agg (doR b x), .int .i64 (p : Int), .int .i64 many, .int .i64 pl] w fun r w' => r = .returned (.tuple #[]) ∧ EPost w b own (E.shows (E.state.list p) pl (min many ((E.state.list p).length : Int)).toNat) w' := by
 have HSt := Lib.hid (fun W (g : Grow w W) => zcl W b own E (R.grow g) (hQ.mo hd))
 have hl : (E.state.list p).length ≤ 400 := hQ.right.smallN.list p (by omega)
 have HV := Lib.hid (fun (V : SV) W (r : RepSt W V E.state) => r.list p (by omega))
 have HMo : Hid (∀ k, Mo (E.shows (E.state.list p) pl k)) := fun k => (Jv.shows (M := True) (Q := fun _ => True) (P := fun _ => True) (by refine ⟨?_, ?_, ?_, ?_⟩ <;> intros <;> trivial) (E.state.list p) pl k ⟨hQ, Or.inr trivial⟩).1.mo hd
 have HR := Lib.hid R
 clear R hQ
 generalize E.state.list p = l at *
 have hSc : Hid (∀ k, E.shows l pl (k + 1) = (E.shows l pl k).show (gt l (l.length - 1 - k)) pl) := fun k => rfl
 rcases hp with rfl | rfl
 all_goals
  go_enter Tryz.func80, Tryz.ntmps80
  go_wp2_with fail
  refine (HSt.out _ grI).mono ?_
  rintro e' w2 ⟨V, rfl, hR2, hU2, hG2⟩
  have hI := HV.out V _ hR2
  have hn := hI.len
  have hap := fun hl => (hU2 _ (Or.inr ⟨_, by decide, zbs hI hl⟩)).1
  have HI := Lib.hid hI
  have hb0 := (Boxd.new w (doR b x) 70).grow hG2
  have hg0 : Grow w w2 := Grow.trans grI hG2
  simp only [zaa] at hap
  clear hR2 hU2 hG2 hI HSt
  have HB := Lib.hid hb0
  have HAP := Lib.hid hap
  have HG0 := Lib.hid hg0
  obtain ⟨hb1, hb2, hb3⟩ := hb0
  clear hap
  generalize hM : min many (l.length : Int) = M at *
  have hM2 : M ≤ l.length := by omega
  have HMM := Lib.hid hM
  go_wp2_with fail
  clear hM hb1 hb2
  have hT0 : Turn w2 b own (E.shows l pl 0) w2 own := Turn.first (HR.out.grow hg0)
  have HT0 := Lib.hid hT0
  clear hT0 hg0
  go_loopw [21] (fun i wr => ∃ (k : Nat) (own2 : Nat → Prop), k ≤ M.toNat ∧ i = .int .i64 k ∧ Turn w2 b own (E.shows l pl k) wr own2) (fun i _ => M.toNat - (intOf i).toNat)
  case atStart => exact ⟨0, own, by omega, rfl, HT0.out⟩
  case round =>
   obtain ⟨k, own2, hk, rfl, hT⟩ := hrel
   have HT := Lib.hid hT
   clear hT
   by_cases hlt : k < M.toNat
   · have hltM : (k : Int) < M := by omega
     obtain ⟨j, hj⟩ : ∃ j, l.length = k + j + 1 := ⟨l.length - 1 - k, by omega⟩
     obtain ⟨hc1, hc2, hc3⟩ := HB.out.kept HT.out.kept (fun h => by have := HR.out.lt _ h; omega)
     obtain ⟨hat1, hat2⟩ := (HI.out.kept HT.out.kept (fun hl h => by have := HR.out.lt _ h; have := HAP.out hl; omega)).at j (by omega)
     have hs := hSc.out k
     rw [show l.length - 1 - k = j by omega] at hs
     have HS := Lib.hid hs
     have hmo := HMo.out k
     have HP := Lib.hid (fun W (g : Grow wr W) => zxe W b own2 _ (HT.out.em.grow g) hmo (gt l j) pl)
     rw [hj] at hn
     have hj400 : k + j + 1 ≤ 400 := by omega
     have hkj : (k : Int) + j - k = j := by omega
     have hjl : (j : Int) < (k : Int) + j + 1 := by omega
     clear hs hmo hlt hk hj
     generalize E.shows l pl k = Ek at *
     go_wp2_with fail
     refine zat [0, 1, 2, 3, 4, 5, 6, 7, 8, 9, 10] 11 [] (by kernel_rfl) (by kernel_rfl) ?_; simp only [zby, List.getElem?_cons_zero, List.getElem?_cons_succ]; (repeat (go_big_quiet_step ( fail ))); refine wpQuiet_nil ?_; rintro _ ⟨nx, rfl⟩
     go_wp2_with (go_at_call 107; refine (HP.out _ grI).mono ?_; rintro e' w4 ⟨rfl, hE⟩; have HE := Lib.hid hE; clear hE)
     obtain ⟨own4, T4⟩ := HT.out.step grI HE.out
     rw [← HS.out] at T4
     have HT4 := Lib.hid T4
     clear T4 hkj hn hc1 hc2
     go_wp2_with fail
     go_roundw
     case rel => exact ⟨k + 1, own4, by omega, by go_num, HT4.out⟩
     case measure => simp [intOf]; omega
   · have hke : k = M.toNat := by omega
     subst hke
     have hltM : M ≤ (M.toNat : Int) := by omega
     go_wp2_with fail
     go_end0
     exact ⟨rfl, by rw [HMM.out]; exact HT.out.post HG0.out⟩
end Go.Proofs.YthfalocligkamaaGreatDoor
