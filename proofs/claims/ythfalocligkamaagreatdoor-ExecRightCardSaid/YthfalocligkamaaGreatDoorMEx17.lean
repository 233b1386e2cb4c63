/- The walk of exec's Do. -/
import Derived.Test.YthfalocligkamaaGreatDoorMEf7
import Derived.Test.YthfalocligkamaaGreatDoorMEx1
namespace Go.Proofs.YthfalocligkamaaGreatDoor
open Go Go.RowKit Go.Shelf
theorem z3z (w : World) (b : Nat) (own : Nat → Prop) (E : Em) (R : Emt w b own E) {d : List Int} (hQ : Oq d E) (hd : d.length ≤ 1048576) (GL : GlobE w own) (e : Eff) (ok : E.err = 0 → e.Ok) (x : Ctx) (hc : E.err = 0 → x.ctl = 0 ∨ x.ctl = 1) (ht : x.tgt ≤ 9223372036854775807) (lim : Nat → Prop) (hI : e.In w lim) (hol : ∀ k, own k → ¬ lim k) (hlim : ∀ k, lim k → k < w.heap.size) :
 Calls Tryz.prog 30 #[.agg (doR b x), .agg (exR e.op e.n e.m e.who e.a e.subs.length e.c)] w fun r w' => r = .returned (.tuple #[]) ∧ EPost w b own (e.run x E) w' := by
 by_cases he : E.err = 0
 · have := zye e (ok he) w b own E R d hQ hd GL x (hc he) ht lim hI hol hlim
   rw [Eff.row_is] at this
   exact this
 · rw [Eff.run_err e x he]
   exact z8r w b own E R he x _ _ _ _ _ _ _
theorem z30 (w0 : World) (b : Nat) (own : Nat → Prop) (GL : GlobE w0 own) (lim : Nat → Prop) (e : Eff) (hI : e.In w0 lim) (hol : ∀ k, own k → ¬ lim k) (hlim : ∀ k, lim k → k < w0.heap.size) (x : Ctx) (ht : x.tgt ≤ 9223372036854775807) {d : List Int} (hd : d.length ≤ 1048576) (E : Em) (wk : World) (ownk : Nat → Prop) (T : Turn w0 b own E wk ownk) (hQ : Oq d E) (ok : E.err = 0 → e.Ok) (hc : E.err = 0 → x.ctl = 0 ∨ x.ctl = 1) (W : World) (g : Grow wk W) :
 Calls Tryz.prog 30 #[.agg (doR b x), .agg (exR e.op e.n e.m e.who e.a e.subs.length e.c)] W fun r w' => r = .returned (.tuple #[]) ∧ EPost w0 b own (e.run x E) w' := by
 refine (z3z W b ownk E (T.em.grow g) hQ hd ((T.glob GL).grow g) e ok x hc ht lim ((hI.kept hol T.kept).grow g) (fun j hj => ?_) (fun k h => Nat.lt_of_lt_of_le (hlim k h) (Nat.le_trans T.kept.size g.size))).mono ?_
 · rcases T.own j hj with h | h
   · exact hol j h
   · exact fun hl => by have := hlim j hl; omega
 · rintro r w' ⟨rfl, hE⟩
   obtain ⟨own2, T2⟩ := T.step g hE
   exact ⟨rfl, T2.post (Grow.refl _)⟩
theorem zmw {w : World} {b : Nat} {own ownk : Nat → Prop} {E : Em} {wk : World} {q : Nat} {cs : Array Value} (hlt : ∀ k, own k → k < w.heap.size) (hq : w.heap.size ≤ q) {w0 : World} (h : Boxd w0 q cs) (T : Turn w0 b own E wk ownk) : Boxd wk q cs :=
 h.kept T.kept (fun h => by have := hlt _ h; omega)
set_option maxRecDepth 100000 in
set_option maxHeartbeats 8000000 in
theorem zp6 (w : World) (b : Nat) (own : Nat → Prop) (E : Em) (R : Emt w b own E) {d : List Int} (hQ : Oq d E) (hd : d.length ≤ 1048576) (GL : GlobE w own) (e : Eff) (x : Ctx) (ht : x.tgt ≤ 9223372036854775807) (lim : Nat → Prop) (hI : e.In w lim) (hol : ∀ k, own k → ¬ lim k) (hlim : ∀ k, lim k → k < w.heap.size) :
 Calls Tryz.prog 8 #[.pointer (some ⟨b, 0, none⟩), .agg (exR e.op e.n e.m e.who e.a e.subs.length e.c), .agg (ctR x)] w fun r w' => r = .returned (.tuple #[]) ∧ EPost w b own (E.exec e x) w' := by
 have HR := Lib.hid R
 have HGW : Hid (Grow w ((w.alloc (.cells (exR e.op e.n e.m e.who e.a e.subs.length e.c) 32)).alloc (.cells (ctR x) 39))) := grI
 by_cases he : E.err = 0
 · have HEr := Lib.hid (fun W (g : Grow ((w.alloc (.cells (exR e.op e.n e.m e.who e.a e.subs.length e.c) 32)).alloc (.cells (ctR x) 39)) W) => by have := zap W b own E (R.grow (HGW.out.trans g)); rw [he, zat] at this; exact this)
   have HC := Lib.hid (fun W (g : Grow ((w.alloc (.cells (exR e.op e.n e.m e.who e.a e.subs.length e.c) 32)).alloc (.cells (ctR x) 39)) W) => by have := zkw e W lim (hI.grow (HGW.out.trans g)) x.kind; rw [Eff.row_is] at this; exact this)
   have HF := Lib.hid (fun W (g : Grow ((w.alloc (.cells (exR e.op e.n e.m e.who e.a e.subs.length e.c) 32)).alloc (.cells (ctR x) 39)) W) => zcl W b own E (R.grow (HGW.out.trans g)) (e.check x.kind))
   have HXP := Lib.hid (fun W => zj7 W x.ctl)
   have HT := Lib.hid (Turn.first (HR.out.grow HGW.out))
   have hlt : ∀ k, own k → k < w.heap.size := HR.out.lt
   have HB0 : Hid (∀ E2 w2 own2, Turn ((w.alloc (.cells (exR e.op e.n e.m e.who e.a e.subs.length e.c) 32)).alloc (.cells (ctR x) 39)) b own E2 w2 own2 → Boxd w2 w.heap.size (exR e.op e.n e.m e.who e.a e.subs.length e.c)) := fun E2 w2 own2 T => zmw hlt (Nat.le_refl _) ((Boxd.new w _ 32).grow grI) T
   have HB1 : Hid (∀ E2 w2 own2, Turn ((w.alloc (.cells (exR e.op e.n e.m e.who e.a e.subs.length e.c) 32)).alloc (.cells (ctR x) 39)) b own E2 w2 own2 → Boxd w2 (w.heap.size + 1) (ctR x)) := fun E2 w2 own2 T => zmw hlt (by omega) (Boxd.new' (by rw [zaa])) T
   have HD : Hid (∀ (E2 : Em) w2 own2, Turn ((w.alloc (.cells (exR e.op e.n e.m e.who e.a e.subs.length e.c) 32)).alloc (.cells (ctR x) 39)) b own E2 w2 own2 → ∀ {d2 : List Int}, d2.length ≤ 1048576 → Oq d2 E2 → (E2.err = 0 → e.Ok) → (E2.err = 0 → x.ctl = 0 ∨ x.ctl = 1) → ∀ W, Grow w2 W → Calls Tryz.prog 30 #[.agg (doR b x), .agg (exR e.op e.n e.m e.who e.a e.subs.length e.c)] W fun r w' => r = .returned (.tuple #[]) ∧ EPost ((w.alloc (.cells (exR e.op e.n e.m e.who e.a e.subs.length e.c) 32)).alloc (.cells (ctR x) 39)) b own (e.run x E2) w') :=
    fun E2 w2 own2 T d2 hd2 hQ2 ok hc W g => z30 _ b own (GL.grow HGW.out) lim e (hI.grow HGW.out) hol (fun k h => Nat.lt_of_lt_of_le (hlim k h) HGW.out.size) x ht hd2 E2 w2 own2 T hQ2 ok hc W g
   have HX := Lib.hid (show E.exec e x = e.run x (if x.kind ≠ 0 ∧ ¬ (x.tgt = -1 ∨ x.tgt = -2) ∧ (x.tgt ≤ 0 ∨ ((if x.ctl = 0 ∨ x.ctl = 1 then E.fail (e.check x.kind) else (E.fail (e.check x.kind)).fail 1).state.objs.length : Int) < x.tgt) then (if x.ctl = 0 ∨ x.ctl = 1 then E.fail (e.check x.kind) else (E.fail (e.check x.kind)).fail 1).fail 11 else (if x.ctl = 0 ∨ x.ctl = 1 then E.fail (e.check x.kind) else (E.fail (e.check x.kind)).fail 1)) by
    unfold Em.exec
    rw [if_neg (by rw [he]; simp)])
   have HQ := Lib.hid (hQ.fail (e.check x.kind))
   have HOK : Hid ((E.fail (e.check x.kind)).err = 0 → e.Ok) := fun h => by
    have h0 : e.check x.kind = 0 := by
     by_cases h0 : e.check x.kind = 0
     · exact h0
     · exact absurd h (zb5 E _ h0)
    unfold Eff.check at h0
    split at h0
    · cases h0
    · exact Eff.ok_of e _ _ h0
   clear R hQ GL hI he hol hlim HR hlt
   generalize e.check x.kind = k at *
   generalize hv : errV k = v at *
   -- the ways
   go_enter Tryz.func8, Tryz.ntmps8
   go_wp2_with (first | (go_at_call 17; refine (HEr.out _ grI).mono ?_; rintro e' w' ⟨rfl, nx, rfl⟩) | (go_at_call 21; refine (HC.out _ grI).mono ?_; rintro e' w' ⟨rfl, nx, rfl⟩))
   refine (HF.out _ grI).mono ?_
   rintro e' w1 ⟨rfl, hE⟩
   obtain ⟨own1, T1⟩ := HT.out.step grI hE
   clear HF HT hE
   obtain ⟨x11, x12, x13⟩ := HB0.out _ _ _ T1
   obtain ⟨y11, y12, y13⟩ := HB1.out _ _ _ T1
   have HT := Lib.hid T1
   clear T1
   clear HC HEr hv
   generalize E.fail k = E1 at *
   by_cases hc : x.ctl = 0 ∨ x.ctl = 1
   · rw [if_pos hc] at HX
     rw [decide_eq_true hc] at HXP
     by_cases hkd : x.kind = 0
     · have b0 : (x.kind != 0) = false := by simpa using hkd
       rw [if_neg (by rintro ⟨h, _⟩; exact h hkd)] at HX
       clear hkd
       have HDo := Lib.hid (fun W (g : Grow w1 W) => HD.out _ _ _ HT.out hd HQ.out HOK.out (fun _ => hc) W g)
       go_wp2_with (first | (go_at_call 27; refine (HXP.out _).mono ?_; rintro e' w' ⟨rfl, nx, rfl⟩))
       refine (HDo.out _ grI).mono ?_
       rintro e' w9 ⟨rfl, hE⟩
       have HE := Lib.hid hE
       clear hE
       go_wp2_with fail
       go_end0
       exact ⟨rfl, by rw [HX.out]; exact (HE.out).low HGW.out⟩
     · have b0 : (x.kind != 0) = true := by simpa using hkd
       have HTO := Lib.hid (fun W => zgh W x.tgt ht)
       have HTP := Lib.hid (fun W => zgi W x.tgt)
       by_cases hpl : x.tgt = -1 ∨ x.tgt = -2
       · rw [if_pos hpl, decide_eq_true hpl] at HTP
         rw [if_neg (by rintro ⟨_, h, _⟩; exact h hpl)] at HX
         clear hkd hpl
         have HDo := Lib.hid (fun W (g : Grow w1 W) => HD.out _ _ _ HT.out hd HQ.out HOK.out (fun _ => hc) W g)
         go_wp2_with (first | (go_at_call 27; refine (HXP.out _).mono ?_; rintro e' w' ⟨rfl, nx, rfl⟩) | (go_at_call 28; refine (HTP.out _).mono ?_; rintro e' w' ⟨rfl, nx, rfl⟩) | (go_at_call 29; refine (HTO.out _).mono ?_; rintro e' w' ⟨rfl, nx, rfl⟩))
         all_goals
          refine (HDo.out _ grI).mono ?_
          rintro e' w9 ⟨rfl, hE⟩
          have HE := Lib.hid hE
          clear hE
          go_wp2_with fail
          go_end0
          exact ⟨rfl, by rw [HX.out]; exact (HE.out).low HGW.out⟩
       · rw [if_neg hpl, decide_eq_false hpl] at HTP
         by_cases ht0 : x.tgt ≤ 0
         · rw [if_pos ht0, decide_eq_false (by omega)] at HTO
           rw [if_pos ⟨hkd, hpl, Or.inl ht0⟩] at HX
           clear hkd hpl ht0
           have HF := Lib.hid (fun W (g : Grow w1 W) => zcl W b own1 E1 (HT.out.em.grow g) 11)
           rw [zao (by decide)] at HF
           go_wp2_with (first | (go_at_call 27; refine (HXP.out _).mono ?_; rintro e' w' ⟨rfl, nx, rfl⟩) | (go_at_call 28; refine (HTP.out _).mono ?_; rintro e' w' ⟨rfl, nx, rfl⟩) | (go_at_call 29; refine (HTO.out _).mono ?_; rintro e' w' ⟨rfl, nx, rfl⟩))
           refine (HF.out _ grI).mono ?_
           rintro e' w2 ⟨rfl, hE⟩
           obtain ⟨own2, T2⟩ := HT.out.step grI hE
           clear HF HT hE
           (try clear hb0 hb1)
           obtain ⟨x21, x22, x23⟩ := HB0.out _ _ _ T2
           obtain ⟨y21, y22, y23⟩ := HB1.out _ _ _ T2
           have HT := Lib.hid T2
           clear T2
           replace HQ := Lib.hid (HQ.out.fail 11)
           have HDo := Lib.hid (fun W (g : Grow w2 W) => HD.out _ _ _ HT.out hd HQ.out (fun h => absurd h (zb5 _ 11 (by decide))) (fun h => absurd h (zb5 _ 11 (by decide))) W g)
           go_wp2_with fail
           refine (HDo.out _ grI).mono ?_
           rintro e' w9 ⟨rfl, hE⟩
           have HE := Lib.hid hE
           clear hE
           go_wp2_with fail
           go_end0
           exact ⟨rfl, by rw [HX.out]; exact (HE.out).low HGW.out⟩
         have ht1 : 0 < x.tgt := by omega
         rw [if_neg ht0, decide_eq_true ht1] at HTO
         have HSt := Lib.hid (fun W (g : Grow w1 W) => zbo W b own1 E1 (HT.out.em.grow g) (HQ.out.mo hd))
         by_cases hln : (E1.state.objs.length : Int) < x.tgt
         · rw [if_pos ⟨hkd, hpl, Or.inr hln⟩] at HX
           have hl1 : (E1.state.objs.length : Int) ≤ x.tgt - 1 := by omega
           clear hkd hpl ht0 hln
           generalize E1.state = S1 at *
           have HF := Lib.hid (fun W (g : Grow w1 W) => zcl W b own1 E1 (HT.out.em.grow g) 11)
           rw [zao (by decide)] at HF
           go_wp2_with (first | (go_at_call 27; refine (HXP.out _).mono ?_; rintro e' w' ⟨rfl, nx, rfl⟩) | (go_at_call 28; refine (HTP.out _).mono ?_; rintro e' w' ⟨rfl, nx, rfl⟩) | (go_at_call 29; refine (HTO.out _).mono ?_; rintro e' w' ⟨rfl, nx, rfl⟩) | (go_at_call 18; refine (HSt.out _ grI).mono ?_; rintro e' w' ⟨V, rfl, hR2, hU2, nS, rfl⟩; have hon := hR2.objs.len; clear hR2 hU2))
           refine (HF.out _ grI).mono ?_
           rintro e' w2 ⟨rfl, hE⟩
           obtain ⟨own2, T2⟩ := HT.out.step grI hE
           clear HF HT hE
           (try clear hb0 hb1)
           obtain ⟨x21, x22, x23⟩ := HB0.out _ _ _ T2
           obtain ⟨y21, y22, y23⟩ := HB1.out _ _ _ T2
           have HT := Lib.hid T2
           clear T2
           replace HQ := Lib.hid (HQ.out.fail 11)
           have HDo := Lib.hid (fun W (g : Grow w2 W) => HD.out _ _ _ HT.out hd HQ.out (fun h => absurd h (zb5 _ 11 (by decide))) (fun h => absurd h (zb5 _ 11 (by decide))) W g)
           go_wp2_with fail
           refine (HDo.out _ grI).mono ?_
           rintro e' w9 ⟨rfl, hE⟩
           have HE := Lib.hid hE
           clear hE
           go_wp2_with fail
           go_end0
           exact ⟨rfl, by rw [HX.out]; exact (HE.out).low HGW.out⟩
         · rw [if_neg (by rintro ⟨_, _, h⟩; omega)] at HX
           have hl1 : x.tgt - 1 < (E1.state.objs.length : Int) := by omega
           have HDo := Lib.hid (fun W (g : Grow w1 W) => HD.out _ _ _ HT.out hd HQ.out HOK.out (fun _ => hc) W g)
           clear hkd hpl ht0 hln
           generalize E1.state = S1 at *
           go_wp2_with (first | (go_at_call 27; refine (HXP.out _).mono ?_; rintro e' w' ⟨rfl, nx, rfl⟩) | (go_at_call 28; refine (HTP.out _).mono ?_; rintro e' w' ⟨rfl, nx, rfl⟩) | (go_at_call 29; refine (HTO.out _).mono ?_; rintro e' w' ⟨rfl, nx, rfl⟩) | (go_at_call 18; refine (HSt.out _ grI).mono ?_; rintro e' w' ⟨V, rfl, hR2, hU2, nS, rfl⟩; have hon := hR2.objs.len; clear hR2 hU2))
           refine (HDo.out _ grI).mono ?_
           rintro e' w9 ⟨rfl, hE⟩
           have HE := Lib.hid hE
           clear hE
           go_wp2_with fail
           go_end0
           exact ⟨rfl, by rw [HX.out]; exact (HE.out).low HGW.out⟩
   · rw [if_neg hc] at HX
     rw [decide_eq_false hc] at HXP
     have HF := Lib.hid (fun W (g : Grow w1 W) => zcl W b own1 E1 (HT.out.em.grow g) 1)
     rw [zao (by decide)] at HF
     clear hc
     go_wp2_with (first | (go_at_call 27; refine (HXP.out _).mono ?_; rintro e' w' ⟨rfl, nx, rfl⟩))
     refine (HF.out _ grI).mono ?_
     rintro e' w2 ⟨rfl, hE⟩
     obtain ⟨own2, T2⟩ := HT.out.step grI hE
     clear HF HT hE
     (try clear hb0 hb1)
     obtain ⟨x21, x22, x23⟩ := HB0.out _ _ _ T2
     obtain ⟨y21, y22, y23⟩ := HB1.out _ _ _ T2
     have HT := Lib.hid T2
     clear T2
     replace HQ := Lib.hid (HQ.out.fail 1)
     have HE0 : Hid ((E1.fail 1).err ≠ 0) := zb5 _ 1 (by decide)
     generalize E1.fail 1 = E2 at *
     by_cases hkd : x.kind = 0
     · have b0 : (x.kind != 0) = false := by simpa using hkd
       rw [if_neg (by rintro ⟨h, _⟩; exact h hkd)] at HX
       clear hkd
       have HDo := Lib.hid (fun W (g : Grow w2 W) => HD.out _ _ _ HT.out hd HQ.out (fun h => absurd h HE0.out) (fun h => absurd h HE0.out) W g)
       go_wp2_with fail
       refine (HDo.out _ grI).mono ?_
       rintro e' w9 ⟨rfl, hE⟩
       have HE := Lib.hid hE
       clear hE
       go_wp2_with fail
       go_end0
       exact ⟨rfl, by rw [HX.out]; exact (HE.out).low HGW.out⟩
     · have b0 : (x.kind != 0) = true := by simpa using hkd
       have HTO := Lib.hid (fun W => zgh W x.tgt ht)
       have HTP := Lib.hid (fun W => zgi W x.tgt)
       by_cases hpl : x.tgt = -1 ∨ x.tgt = -2
       · rw [if_pos hpl, decide_eq_true hpl] at HTP
         rw [if_neg (by rintro ⟨_, h, _⟩; exact h hpl)] at HX
         clear hkd hpl
         have HDo := Lib.hid (fun W (g : Grow w2 W) => HD.out _ _ _ HT.out hd HQ.out (fun h => absurd h HE0.out) (fun h => absurd h HE0.out) W g)
         go_wp2_with (first | (go_at_call 28; refine (HTP.out _).mono ?_; rintro e' w' ⟨rfl, nx, rfl⟩) | (go_at_call 29; refine (HTO.out _).mono ?_; rintro e' w' ⟨rfl, nx, rfl⟩))
         all_goals
          refine (HDo.out _ grI).mono ?_
          rintro e' w9 ⟨rfl, hE⟩
          have HE := Lib.hid hE
          clear hE
          go_wp2_with fail
          go_end0
          exact ⟨rfl, by rw [HX.out]; exact (HE.out).low HGW.out⟩
       · rw [if_neg hpl, decide_eq_false hpl] at HTP
         by_cases ht0 : x.tgt ≤ 0
         · rw [if_pos ht0, decide_eq_false (by omega)] at HTO
           rw [if_pos ⟨hkd, hpl, Or.inl ht0⟩] at HX
           clear hkd hpl ht0
           have HF := Lib.hid (fun W (g : Grow w2 W) => zcl W b own2 E2 (HT.out.em.grow g) 11)
           rw [zao (by decide)] at HF
           go_wp2_with (first | (go_at_call 28; refine (HTP.out _).mono ?_; rintro e' w' ⟨rfl, nx, rfl⟩) | (go_at_call 29; refine (HTO.out _).mono ?_; rintro e' w' ⟨rfl, nx, rfl⟩))
           refine (HF.out _ grI).mono ?_
           rintro e' w3 ⟨rfl, hE⟩
           obtain ⟨own3, T3⟩ := HT.out.step grI hE
           clear HF HT hE
           (try clear hb0 hb1)
           obtain ⟨x31, x32, x33⟩ := HB0.out _ _ _ T3
           obtain ⟨y31, y32, y33⟩ := HB1.out _ _ _ T3
           have HT := Lib.hid T3
           clear T3
           replace HQ := Lib.hid (HQ.out.fail 11)
           have HDo := Lib.hid (fun W (g : Grow w3 W) => HD.out _ _ _ HT.out hd HQ.out (fun h => absurd h (zb5 _ 11 (by decide))) (fun h => absurd h (zb5 _ 11 (by decide))) W g)
           go_wp2_with fail
           refine (HDo.out _ grI).mono ?_
           rintro e' w9 ⟨rfl, hE⟩
           have HE := Lib.hid hE
           clear hE
           go_wp2_with fail
           go_end0
           exact ⟨rfl, by rw [HX.out]; exact (HE.out).low HGW.out⟩
         have ht1 : 0 < x.tgt := by omega
         rw [if_neg ht0, decide_eq_true ht1] at HTO
         have HSt := Lib.hid (fun W (g : Grow w2 W) => zbo W b own2 E2 (HT.out.em.grow g) (HQ.out.mo hd))
         by_cases hln : (E2.state.objs.length : Int) < x.tgt
         · rw [if_pos ⟨hkd, hpl, Or.inr hln⟩] at HX
           have hl1 : (E2.state.objs.length : Int) ≤ x.tgt - 1 := by omega
           clear hkd hpl ht0 hln
           generalize E2.state = S1 at *
           have HF := Lib.hid (fun W (g : Grow w2 W) => zcl W b own2 E2 (HT.out.em.grow g) 11)
           rw [zao (by decide)] at HF
           go_wp2_with (first | (go_at_call 28; refine (HTP.out _).mono ?_; rintro e' w' ⟨rfl, nx, rfl⟩) | (go_at_call 29; refine (HTO.out _).mono ?_; rintro e' w' ⟨rfl, nx, rfl⟩) | (go_at_call 18; refine (HSt.out _ grI).mono ?_; rintro e' w' ⟨V, rfl, hR2, hU2, nS, rfl⟩; have hon := hR2.objs.len; clear hR2 hU2))
           refine (HF.out _ grI).mono ?_
           rintro e' w3 ⟨rfl, hE⟩
           obtain ⟨own3, T3⟩ := HT.out.step grI hE
           clear HF HT hE
           (try clear hb0 hb1)
           obtain ⟨x31, x32, x33⟩ := HB0.out _ _ _ T3
           obtain ⟨y31, y32, y33⟩ := HB1.out _ _ _ T3
           have HT := Lib.hid T3
           clear T3
           replace HQ := Lib.hid (HQ.out.fail 11)
           have HDo := Lib.hid (fun W (g : Grow w3 W) => HD.out _ _ _ HT.out hd HQ.out (fun h => absurd h (zb5 _ 11 (by decide))) (fun h => absurd h (zb5 _ 11 (by decide))) W g)
           go_wp2_with fail
           refine (HDo.out _ grI).mono ?_
           rintro e' w9 ⟨rfl, hE⟩
           have HE := Lib.hid hE
           clear hE
           go_wp2_with fail
           go_end0
           exact ⟨rfl, by rw [HX.out]; exact (HE.out).low HGW.out⟩
         · rw [if_neg (by rintro ⟨_, _, h⟩; omega)] at HX
           have hl1 : x.tgt - 1 < (E2.state.objs.length : Int) := by omega
           have HDo := Lib.hid (fun W (g : Grow w2 W) => HD.out _ _ _ HT.out hd HQ.out (fun h => absurd h HE0.out) (fun h => absurd h HE0.out) W g)
           clear hkd hpl ht0 hln
           generalize E2.state = S1 at *
           go_wp2_with (first | (go_at_call 28; refine (HTP.out _).mono ?_; rintro e' w' ⟨rfl, nx, rfl⟩) | (go_at_call 29; refine (HTO.out _).mono ?_; rintro e' w' ⟨rfl, nx, rfl⟩) | (go_at_call 18; refine (HSt.out _ grI).mono ?_; rintro e' w' ⟨V, rfl, hR2, hU2, nS, rfl⟩; have hon := hR2.objs.len; clear hR2 hU2))
           refine (HDo.out _ grI).mono ?_
           rintro e' w9 ⟨rfl, hE⟩
           have HE := Lib.hid hE
           clear hE
           go_wp2_with fail
           go_end0
           exact ⟨rfl, by rw [HX.out]; exact (HE.out).low HGW.out⟩
 · have HEr := Lib.hid (fun W (g : Grow w W) => by have := zap W b own E (R.grow g); rw [zao he] at this; exact this)
   have hx : E.exec e x = E := by unfold Em.exec; rw [if_pos he]
   rw [hx]
   clear R hQ GL he hI hol hx
   go_enter Tryz.func8, Tryz.ntmps8
   go_wp2_with (go_at_call 17; refine (HEr.out _ grI).mono ?_; rintro e' w' ⟨rfl, nx, rfl⟩)
   refine bodyPost_ret (results_none rfl _ _ _) rfl ?_
   exact ⟨rfl, HR.out.stay grI⟩
end Go.Proofs.YthfalocligkamaaGreatDoor
namespace Go.Proofs.YthfalocligkamaaGreatDoor
open Go Go.RowKit Go.Shelf
def Duo (w0 W : World) (b1 b2 : Nat) (E F : Em) : Prop :=
 Grow w0 W ∧ ∃ own1 own2 : Nat → Prop, Emt W b1 own1 E ∧ Emt W b2 own2 F ∧ (∀ k, own1 k → ¬ own2 k) ∧ (∀ k, own1 k → w0.heap.size ≤ k) ∧ (∀ k, own2 k → w0.heap.size ≤ k)
theorem Duo.made {w0 wa wc W : World} {b1 b2 : Nat} {E F : Em} {own1 own2 : Nat → Prop} (ga : Grow w0 wa) (gb : Grow wa wc) (gc : Grow wc W) (h1 : Emt wa b1 own1 E) (o1 : ∀ k, own1 k → w0.heap.size ≤ k) (h2 : Emt W b2 own2 F) (o2 : ∀ k, own2 k → wc.heap.size ≤ k) : Duo w0 W b1 b2 E F :=
 ⟨(ga.trans gb).trans gc, own1, own2, h1.grow (gb.trans gc), h2, fun k a b => by have := h1.lt k a; have := o2 k b; have := gb.size; omega, o1, fun k hk => by have := o2 k hk; have := (ga.trans gb).size; omega⟩
theorem Duo.symm {w0 W : World} {b1 b2 : Nat} {E F : Em} (h : Duo w0 W b1 b2 E F) : Duo w0 W b2 b1 F E := by
 obtain ⟨g, o1, o2, h1, h2, h3, h4, h5⟩ := h
 exact ⟨g, o2, o1, h2, h1, fun k a b => h3 k b a, h5, h4⟩
theorem Duo.grow {w0 W W' : World} {b1 b2 : Nat} {E F : Em} (h : Duo w0 W b1 b2 E F) (g : Grow W W') : Duo w0 W' b1 b2 E F := by
 obtain ⟨g0, o1, o2, h1, h2, h3, h4, h5⟩ := h
 exact ⟨g0.trans g, o1, o2, h1.grow g, h2.grow g, h3, h4, h5⟩
theorem Duo.first {w0 W : World} {b1 b2 : Nat} {E F : Em} (h : Duo w0 W b1 b2 E F) : ∃ own, Emt W b1 own E := by
 obtain ⟨_, o1, o2, h1, _⟩ := h
 exact ⟨o1, h1⟩
theorem Duo.exec {w0 W : World} {b1 b2 : Nat} {E F : Em} (h : Duo w0 W b1 b2 E F) {d : List Int} (hQ : Oq d E) (hd : d.length ≤ 1048576) (GL : GlobE w0 (fun k => w0.heap.size ≤ k)) (e : Eff) (x : Ctx) (ht : x.tgt ≤ 9223372036854775807) (hI : e.In w0 (fun b => b < w0.heap.size)) :
 Calls Tryz.prog 8 #[.pointer (some ⟨b1, 0, none⟩), .agg (exR e.op e.n e.m e.who e.a e.subs.length e.c), .agg (ctR x)] W fun r w' => r = .returned (.tuple #[]) ∧ Duo w0 w' b1 b2 (E.exec e x) F := by
 obtain ⟨g, o1, o2, h1, h2, h3, h4, h5⟩ := h
 refine (zp6 W b1 o1 E h1 hQ hd (GL.kept (g.kept _) (fun k hk => Or.inl (h4 k hk))) e x ht _ (hI.grow g) (fun k hk hl => by have h := h4 k hk; have hl : k < w0.heap.size := hl; omega) (fun k hl => Nat.lt_of_lt_of_le hl g.size)).mono ?_
 rintro r w2 ⟨rfl, hE⟩
 obtain ⟨o3, T⟩ := (Turn.first h1).step (Grow.refl _) hE
 refine ⟨rfl, T.kept.grow_of g h4, o3, o2, T.em, h2.kept T.kept (fun k hk h => h3 k h hk), fun k hk h => ?_, fun k hk => ?_, h5⟩
 · rcases T.own k hk with h' | h'
   · exact h3 k h' h
   · have := h2.lt k h; omega
 · rcases T.own k hk with h' | h'
   · exact h4 k h'
   · have := g.size; omega
theorem Duo.err {w0 W : World} {b1 b2 : Nat} {E F : Em} (h : Duo w0 W b1 b2 E F) : Calls Tryz.prog 17 #[.pointer (some ⟨b1, 0, none⟩)] W fun e w' => e = .returned (errV E.err) ∧ Grow W w' := by
 obtain ⟨o, h⟩ := h.first
 exact zap W b1 o E h
theorem Duo.state {w0 W : World} {b1 b2 : Nat} {E F : Em} (h : Duo w0 W b1 b2 E F) {d : List Int} (hQ : Oq d E) (hd : d.length ≤ 1048576) :
 Calls Tryz.prog 18 #[.pointer (some ⟨b1, 0, none⟩)] W fun e w' => ∃ V' : SV, e = .returned (.agg (stA V' E.state.num)) ∧ RepSt w' V' E.state ∧ (∀ k, V'.uses k → W.heap.size ≤ k ∧ k < w'.heap.size) ∧ Grow W w' := by
 obtain ⟨o, h⟩ := h.first
 exact zbo W b1 o E h (hQ.mo hd)
theorem Oq.evs {d : List Int} {E : Em} (h : Oq d E) : (if E.err ≠ 0 then [] else E.evs).length ≤ 65536 := by
 split
 · exact Nat.zero_le _
 · rename_i he
   exact (h.err (Decidable.not_not.1 he)).evs
theorem Duo.events {w0 W : World} {b1 b2 : Nat} {E F : Em} (h : Duo w0 W b1 b2 E F) {d : List Int} (hQ : Oq d E) :
 Calls Tryz.prog 25 #[.pointer (some ⟨b1, 0, none⟩)] W fun e w' => ∃ s : Sl, e = .returned s.val ∧ Rows' w' s 6 (if E.err ≠ 0 then [] else E.evs) ∧ Grow W w' := by
 obtain ⟨o, h⟩ := h.first
 by_cases he : E.err = 0
 · exact zow W b1 o E h (by have := (hQ.err he).evs; omega)
 · rw [if_pos he]
   refine (zz4 W _ E.err he (zcf h)).mono ?_
   rintro _ w' ⟨rfl, g⟩
   exact ⟨.nil, rfl, Rows'.nil _ _, g⟩
theorem Oq.small {d : List Int} {E : Em} (h : Oq d E) : Small E.state := h.right.smallN.small (by omega)
end Go.Proofs.YthfalocligkamaaGreatDoor
namespace Go.Proofs.YthfalocligkamaaGreatDoor
open Go Go.RowKit Go.Shelf
def yhl : List Int := [10, 0, 0, 8, 0, 0, 0, 0, 0, 0, 0, 0, 0, 0, 0, 0, 0, 0]
def yhm : List Int := [14, 0, 0, 8, 0, 0, 0, 0, 0, 0, 0, 0, 0, 0, 0, 0, 0, 0]
@[go_sem ↓] theorem z8y (ρ : Operand → Value) (dst : Option Tmp) (parts : Array (Nat × Operand)) (ty : TypeId) (pos : String) (after : Array Edge) (guard : Option (Nat × Bool)) :
 execOp ρ { dst, op := .build 29 parts, type := ty, pos, after, guard } = za2 29 (parts.map fun (i, x) => (i, ρ x)) := rfl
@[go_sem] theorem z9u (w : World) : (za2 57 #[(0, .int .i64 10), (3, .int .i64 8)]).run Tryz.prog w = .ok (.value (.agg (cellsOf yhl))) w := by kernel_rfl
@[go_sem] theorem z9v (w : World) : (za2 57 #[(0, .int .i64 14), (3, .int .i64 8)]).run Tryz.prog w = .ok (.value (.agg (cellsOf yhm))) w := by kernel_rfl
def d1Cells : List Int := [10, 0, 0, 8, 0, 0, 0, 0, 0, 0, 0, 0, 0, 0, 0, 0, 0, 0, 14, 0, 0, 8, 0, 0, 0, 0, 0, 0, 0, 0, 0, 0, 0, 0, 0, 0]
set_option maxRecDepth 100000 in
@[go_sem] theorem yc6 (w : World) : (zc9 22 2 #[(0, .agg (cellsOf yhl)), (1, .agg (cellsOf yhm))]).run Tryz.prog w
 = .ok (.value (.slice (some ⟨w.heap.size, 0, none⟩) 2 2)) (w.alloc (.cells (cellsOf d1Cells) 57)) := by kernel_rfl
set_option maxRecDepth 100000 in
@[go_sem] theorem yc7 (w : World) (b : Nat) : (za2 29 #[(0, .slice (some ⟨b, 0, none⟩) 2 2)]).run Tryz.prog w = .ok (.value (.agg (stA ⟨.mk b 0 2 2, fun _ => .nil⟩ fun _ => 0))) w := by kernel_rfl
def d1V0 (b : Nat) : SV := ⟨.mk b 0 2 2, fun _ => .nil⟩
def d1V (b : Nat) : SV := ⟨.mk b 0 2 2, upd (fun _ => .nil) 8 (.mk (b + 1 + 1) 0 2 2)⟩
@[go_sem] theorem zs0 (w : World) (b o sb so n c : Nat) (h : (w.cell? ⟨b, o, none⟩).isSome = true) (hf : w.frozen? ⟨b, o, none⟩ = false) : (zay 23 (.pointer (some ⟨b, o, none⟩)) (.slice (some ⟨sb, so, none⟩) n c)).run Tryz.prog w = .ok .skip (w.setCell ⟨b, o, none⟩ (.slice (some ⟨sb, so, none⟩) n c)) :=
 zco w b o 23 (.mk sb so n c) (by kernel_rfl) h hf
@[go_sem] theorem yhn (b : Nat) : (stA { objs := .mk b 0 2 2, list := fun _ => .nil } fun _ => 0).setIfInBounds 9 (.slice (some ⟨b + 1 + 1, 0, none⟩) 2 2) = stA (d1V b) fun _ => 0 :=
 zbi (d1V0 b) (fun _ => 0) 8 (.mk (b + 1 + 1) 0 2 2) (by omega)
theorem z4p : ze3 d1S := fun i hi => by
 have hi : i < 2 := hi
 have : i = 0 ∨ i = 1 := by omega
 rcases this with rfl | rfl <;> rfl
theorem z9w (w : World) : RepSt (((w.alloc (.cells (cellsOf d1Cells) 57)).alloc (.cells (stA (d1V w.heap.size) fun _ => 0) 29)).alloc (.cells (cellsOf [0, 1]) 3)) (d1V w.heap.size) d1S := by
 have hf : zdq d1S.objs = d1Cells.map I := rfl
 have h1 : ∀ i, (((w.alloc (.cells (cellsOf d1Cells) 57)).alloc (.cells (stA (d1V w.heap.size) fun _ => 0) 29)).alloc (.cells (cellsOf [0, 1]) 3)).cell? ⟨w.heap.size, i, none⟩ = (cellsOf d1Cells)[i]? := fun i => by go_simp
 have hO : Cells (((w.alloc (.cells (cellsOf d1Cells) 57)).alloc (.cells (stA (d1V w.heap.size) fun _ => 0) 29)).alloc (.cells (cellsOf [0, 1]) 3)) (.mk w.heap.size 0 2 2) 18 (d1Cells.map I) := by
  refine ⟨(by simp [d1Cells, Sl.n]), (by show 2 ≤ 2; omega), fun j u hu => ?_⟩
  show World.cell? _ ⟨w.heap.size, 0 + j, none⟩ = some u
  rw [h1, Nat.zero_add, ← hu]
  simp [cellsOf]
 rw [← hf] at hO
 refine ⟨hO.rows (by omega) z4p, fun z hz => ?_⟩
 by_cases h8 : z = 8
 · subst h8
   have h1 : ∀ i, (((w.alloc (.cells (cellsOf d1Cells) 57)).alloc (.cells (stA (d1V w.heap.size) fun _ => 0) 29)).alloc (.cells (cellsOf [0, 1]) 3)).cell? ⟨w.heap.size + 1 + 1, i, none⟩ = (cellsOf [0, 1])[i]? := fun i => by go_simp
   exact ⟨rfl, Nat.le_refl _, fun i hi => by
    show World.cell? _ ⟨w.heap.size + 1 + 1, 0 + i, none⟩ = _
    rw [h1, Nat.zero_add]
    exact za5 _ _ hi⟩
 · have e1 : (d1V w.heap.size).list z = .nil := by simp [d1V, upd, h8]
   have e2 : d1S.list z = [] := by simp [d1S, upd, h8]
   rw [e1, e2]; exact Ints.nil _
theorem zz0 : Small d1S := ⟨by decide, fun z hz => by simp only [d1S, upd]; (repeat' split) <;> simp⟩
@[go_sem] theorem z2c (w : World) (p n q : Int) : (za2 32 #[(0, .int .i64 p), (1, .int .i64 n), (3, .int .i64 q)]).run Tryz.prog w = .ok (.value (.agg (exR p n 0 q none 0 0))) w := by kernel_rfl
@[go_sem] theorem z7p (w : World) (op n m who : Int) (k c : Nat) : (zc9 30 1 #[(0, .agg (exR op n m who none k c))]).run Tryz.prog w = .ok (.value (.slice (some ⟨w.heap.size, 0, none⟩) 1 1)) (w.alloc (.cells (exR op n m who none k c) 32)) := by kernel_rfl
@[go_sem] theorem z2b (w : World) (p : Int) (b o n c : Nat) : (za2 32 #[(0, .int .i64 p), (4, .slice (some ⟨b, o, none⟩) n c)]).run Tryz.prog w = .ok (.value (.agg (exR p 0 0 0 (some ⟨b, o, none⟩) n c))) w := by kernel_rfl
@[go_sem ↓] theorem z8x (ρ : Operand → Value) (dst : Option Tmp) (parts : Array (Nat × Operand)) (ty : TypeId) (pos : String) (after : Array Edge) (guard : Option (Nat × Bool)) :
 execOp ρ { dst, op := .build 39 parts, type := ty, pos, after, guard } = za2 39 (parts.map fun (i, x) => (i, ρ x)) := rfl
@[go_sem] theorem zyw (w : World) : (za2 39 #[]).run Tryz.prog w = .ok (.value (.agg (ctR ⟨0, 0, 0, 0⟩))) w := by kernel_rfl
theorem ybs {w w' : World} {z : Nat} (hz : w.heap.size = z) (t : TypeId) (g : Grow (w.alloc (.cells (exR 1 2 0 2 none 0 0) t)) w') : (d1X (some ⟨z, 0, none⟩) 1).In w' (fun k => k = z) := by
 subst hz
 have h : ∀ i, (w.alloc (.cells (exR 1 2 0 2 none 0 0) t)).cell? ⟨w.heap.size, i, none⟩ = (exR 1 2 0 2 none 0 0)[i]? := fun i => by rw [zbg, if_pos rfl]
 refine .mk (Or.inr ⟨w.heap.size, 0, rfl, rfl, RowsV.grow ⟨rfl, Nat.le_refl _, fun x hx => ?_, fun i j x hx hj => ?_⟩ g⟩) (fun f hf => ?_)
 · rw [List.mem_singleton.1 hx]; exact zqm _ _ _ _ _ _ _
 · show World.cell? _ ⟨w.heap.size, 0 + i * 5 + j, none⟩ = _
   have hi : i < 1 := (List.getElem?_eq_some_iff.1 hx).1
   obtain rfl : i = 0 := by omega
   have hx2 : x = exR 1 2 0 2 none 0 0 := by have h1 := hx.symm; simp at h1; exact h1
   subst hx2
   rw [h]; congr 1; omega
 · rw [List.mem_singleton.1 hf]
   exact .mk (Or.inl rfl) (fun f hf => by cases hf)
set_option maxRecDepth 100000 in
set_option maxHeartbeats 4000000 in
theorem zip (w : World) (GL : GlobE w (fun k => w.heap.size ≤ k)) : Calls Tryz.prog 6 #[] w fun e w' => e = .returned (.bool true) ∧ Grow w w' := by
 obtain ⟨hp0, hp1, hp2, hp3⟩ := z56
 have HRep := Lib.hid (z9w w)
 have HNew := Lib.hid (fun W (r : RepSt W (d1V w.heap.size) d1S) (g : Grow w W) => by have := zpe d1S (d1V w.heap.size) W r zz0 (GL.base.grow g) .nil [] (Ints.nil W) (by simp); rw [z4o] at this; exact this)
 have hnum : d1S.num = fun _ => 0 := rfl
 rw [hnum] at HNew
 have HGL := Lib.hid GL
 have hQ1 : Oq [] d1E := by have := zqt z4p []; rw [z4o] at this; exact this
 have HQ1 := Lib.hid hQ1
 have hQ2 : Oq [] d1F2 := hQ1.exec _ _
 have HQ2 := Lib.hid hQ2
 have HF : Hid (∀ a c, d1E.exec (d1X a c) ⟨0, 0, 0, 0⟩ = d1F2) := fun a c => rfl
 generalize d1F2 = E2 at *
 clear GL hnum hQ1 hQ2
 go_enter Tryz.func6, Tryz.ntmps6
 go_wp2_with (go_at_call 16; refine (HNew.out _ HRep.out grI).mono ?_; rintro e' w1 ⟨b, own, rfl, hem, hown, nN, rfl⟩)
 have hg1 : Grow w ((((w.alloc (.cells (cellsOf d1Cells) 57)).alloc (.cells (stA (d1V w.heap.size) fun _ => 0) 29)).alloc (.cells (cellsOf [0, 1]) 3)).plus nN) := grI
 have hown1 : ∀ k, own k → w.heap.size ≤ k := fun k hk => by have := (hown k hk).1; simp only [zaa] at this; omega
 obtain ⟨z, hz⟩ : ∃ z, z = w.heap.size + 1 + 1 + 1 + nN.objs.size := ⟨_, rfl⟩
 have hzw : ((((w.alloc (.cells (cellsOf d1Cells) 57)).alloc (.cells (stA (d1V w.heap.size) fun _ => 0) 29)).alloc (.cells (cellsOf [0, 1]) 3)).plus nN).heap.size = z := by rw [hz]; simp only [zac, zaa]
 rw [← hz]
 clear hz hown HNew HRep
 generalize (((w.alloc (.cells (cellsOf d1Cells) 57)).alloc (.cells (stA (d1V w.heap.size) fun _ => 0) 29)).alloc (.cells (cellsOf [0, 1]) 3)).plus nN = W1 at *
 have hlt := hem.lt
 have hgl1 : GlobE W1 own := HGL.out.kept (hg1.kept _) (fun k hk => Or.inl (hown1 k hk))
 have hDo := zp6 (W1.alloc (.cells (exR 1 2 0 2 none 0 0) 32)) b own d1E (hem.grow grI) HQ1.out (by simp) (hgl1.grow grI) (d1X (some ⟨z, 0, none⟩) 1) ⟨0, 0, 0, 0⟩ (by decide) (fun k => k = z) (ybs hzw 32 (Grow.refl _)) (fun k hk (e : k = z) => by have := hlt k hk; omega) (fun k (e : k = z) => by rw [zaa]; omega)
 rw [HF.out] at hDo
 refine hDo.mono ?_
 clear hDo hgl1 HF
 rintro e' w2 ⟨rfl, hE⟩
 obtain ⟨own2, T2⟩ := (Turn.first hem).step grI hE
 have HSt := Lib.hid (fun W (g : Grow w2 W) => zbo W b own2 E2 (T2.em.grow g) (HQ2.out.mo (by simp)))
 have HEr := Lib.hid (fun W (g : Grow w2 W) => by have := zap W b own2 E2 (T2.em.grow g); rw [hp0, zat] at this; exact this)
 have HG3 := Lib.hid (T2.kept.grow_of hg1 hown1 : Grow w w2)
 have hs2 : E2.state = E2.now := by unfold Em.state; rw [if_neg (by rw [hp0]; simp)]
 rw [hs2] at HSt
 clear hE T2 hem hown1 hg1 hp0 HQ2 HQ1 hs2 hlt hzw HGL
 generalize E2.now = S2 at *
 go_wp2_with fail
 refine (HSt.out _ (Grow.refl _)).mono ?_
 rintro e' w' ⟨V1, rfl, hR', hu, nS, rfl⟩
 have hon : V1.objs.n = 2 := by rw [hR'.objs.len, hp1]
 obtain ⟨ob, ow, osz, osub, oc⟩ := hR'.objs.at (by omega) 0 (by omega)
 obtain ⟨pb, pw, psz, psub, pc⟩ := hR'.objs.at (by omega) 1 (by omega)
 have o6 := oc 6 (by decide)
 have p6 := pc 6 (by decide)
 rw [hp2] at o6
 rw [hp3] at p6
 simp only [Nat.zero_mul, Nat.add_zero, Nat.one_mul] at o6 p6 osz psz
 simp only [zac] at ob pb
 clear oc pc osub psub ow pw hR' hu
 go_wp2_with (go_at_call 17; refine (HEr.out _ (Grow.trans ⟨nS, rfl⟩ grI)).mono ?_; rintro e' w' ⟨rfl, nx, rfl⟩)
 go_ret
 exact ⟨by rfl, Grow.trans HG3.out grI⟩
end Go.Proofs.YthfalocligkamaaGreatDoor
