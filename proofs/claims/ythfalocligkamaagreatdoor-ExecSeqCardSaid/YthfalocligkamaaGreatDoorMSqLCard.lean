/- The law ExecSeq, walked. The law ExecSeq holds for any input. The law ExecSeq holds for any input: the tied card. -/
import Derived.Test.YthfalocligkamaaGreatDoorMEx17
import Derived.Test.YthfalocligkamaaGreatDoorMEf9
import Derived.Test.YthfalocligkamaaGreatDoorMIs19
import Derived.Test.YthfalocligkamaaGreatDoorMLawS
import Derived.Test.YthfalocligkamaaGreatDoorMEx4
import Derived.Test.YthfalocligkamaaGreatDoorCards
import Derived.Test.YthfalocligkamaaGreatDoorTie
namespace Go.Proofs.YthfalocligkamaaGreatDoor
open Go Go.RowKit Go.Shelf
@[go_sem] theorem z7q (w : World) (op n m who : Int) (a : Option Addr) (k c : Nat) : (zc9 30 2 #[(0, .agg (exR op n m who a k c)), (1, .agg (exR op n m who a k c))]).run Tryz.prog w = .ok (.value (.slice (some ⟨w.heap.size, 0, none⟩) 2 2)) (w.alloc (.cells (exR op n m who a k c ++ exR op n m who a k c) 32)) := by kernel_rfl
@[go_sem] theorem z2d (w : World) (p : Int) (b o n c : Nat) : (za2 32 #[(0, .int .i64 p), (4, .slice (some ⟨b, o, none⟩) n c)]).run Tryz.prog w = .ok (.value (.agg (exR p 0 0 0 (some ⟨b, o, none⟩) n c))) w := by kernel_rfl
theorem z3u {w w' : World} {b : Nat} (hb : b = w.heap.size) (t : TypeId) (r : Array Value) (hr : r.size = 5) (g : Grow (w.alloc (.cells (r ++ r) t)) w') : RowsV w' (.mk b 0 2 2) 5 [r, r] := by
 subst hb
 have h : ∀ i, (w.alloc (.cells (r ++ r) t)).cell? ⟨w.heap.size, i, none⟩ = (r ++ r)[i]? := fun i => by rw [zbg, if_pos rfl]
 refine RowsV.grow ⟨rfl, Nat.le_refl _, fun x hx => ?_, fun i j x hx hj => ?_⟩ g
 · rcases List.mem_cons.1 hx with rfl | hx
   · exact hr
   · rw [List.mem_singleton.1 hx]; exact hr
 · show World.cell? _ ⟨w.heap.size, 0 + i * 5 + j, none⟩ = _
   have hi : i < 2 := (List.getElem?_eq_some_iff.1 hx).1
   have hx2 : x = r := by
    have : i = 0 ∨ i = 1 := by omega
    rcases this with rfl | rfl <;> simpa using hx.symm
   subst hx2
   rw [h, Array.getElem?_append, hr]
   have : i = 0 ∨ i = 1 := by omega
   rcases this with rfl | rfl
   · rw [if_pos (by omega)]; congr 1; omega
   · rw [if_neg (by omega)]; congr 1; omega
theorem Eff.In.more {w : World} {lim lim' : Nat → Prop} {e : Eff} (h : e.In w lim) (hl : ∀ k, lim k → lim' k) : e.In w lim' := by
 induction h with
 | mk R hs ih => exact .mk (R.imp id (fun ⟨b, o, h1, h2, h3⟩ => ⟨b, o, h1, hl _ h2, h3⟩)) ih
theorem yc0 {w w' : World} {e : Eff} (hI : e.In w (fun k => k < w.heap.size)) {b : Nat} (hb : b = w.heap.size) (t : TypeId) (g : Grow (w.alloc (.cells (e.row ++ e.row) t)) w') : (e.two (some ⟨b, 0, none⟩) 2).In w' (fun k => k < w.heap.size + 1) := by
 have gw : Grow w w' := Grow.trans grI g
 have hI' : e.In w' (fun k => k < w.heap.size + 1) := (hI.grow gw).more (fun k (h : k < w.heap.size) => show k < w.heap.size + 1 by omega)
 refine .mk (Or.inr ⟨b, 0, rfl, (by show b < w.heap.size + 1; omega), z3u hb t e.row (by rw [Eff.row_is]; exact zqm _ _ _ _ _ _ _) g⟩) (fun f hf => ?_)
 rcases List.mem_cons.1 hf with rfl | hf
 · exact hI'
 · rw [List.mem_singleton.1 hf]; exact hI'
theorem z8p {w w' : World} {z : Nat} (hz : w.heap.size = z) {e : Eff} (hI : e.In w (fun k => k < w.heap.size)) (t : TypeId) (g : Grow (w.alloc (.cells (e.row ++ e.row) t)) w') : (e.two (some ⟨z, 0, none⟩) 2).In w' (fun k => k < z + 1) := by
 subst hz; exact yc0 hI rfl t g
theorem Eff.two_row (e : Eff) (a : Option Addr) (c : Nat) : exR (e.two a c).op (e.two a c).n (e.two a c).m (e.two a c).who (e.two a c).a (e.two a c).subs.length (e.two a c).c = exR 21 0 0 0 a 2 c := rfl
set_option maxRecDepth 100000 in
set_option maxHeartbeats 8000000 in
theorem z7y (S : St) (V : SV) (w : World) (R : RepSt w V S) (GL : GlobE w (fun k => w.heap.size ≤ k)) (HA : ∀ W, Grow w W → Calls Tryz.prog 6 #[] W fun e w' => e = .returned (.bool true) ∧ Grow W w')
 (sd : Sl) (draws : List Int) (RD : Ints w sd draws) (hsd : sd.n ≤ 9223372036854775807) (e : Eff) (x : Ctx) (hI : e.In w (fun k => k < w.heap.size)) (ht : x.tgt ≤ 9223372036854775807) :
 Calls Tryz.prog 5 #[.agg (stA V S.num), sd.val, .agg (zdc e.op e.n e.m e.who e.a e.subs.length e.c x)] w fun e w' => e = .returned (.bool true) ∧ Grow w w' := by
 have HAl := Lib.hid HA
 have HLa := Lib.hid (fun W (g : Grow w W) => znb S V W (R.grow g) sd hsd e x _ (hI.grow g))
 have HGW : Hid (Grow w ((w.alloc (.cells (stA V S.num) 29)).alloc (.cells (zdc e.op e.n e.m e.who e.a e.subs.length e.c x) 34))) := grI
 have HR := Lib.hid R
 have HGL := Lib.hid GL
 have HRD := Lib.hid RD
 have HI := Lib.hid hI
 have hwid : ze3 S := fun i hi => R.objs.wid i hi
 have HQ0 := Lib.hid (zqt hwid draws)
 clear R GL HA RD hI hwid
 go_enter Tryz.func5, Tryz.ntmps5
 go_wp2_with (first | (go_at_call 6; refine (HAl.out _ grI).mono ?_; rintro e' w' ⟨rfl, m1, rfl⟩) | (go_at_call 15; refine (HLa.out _ grI).mono ?_; rintro e' w' ⟨⟨z, rfl, hz⟩, m2, rfl⟩; have HZ := Lib.hid hz; clear hz; cases z))
 · have hfit := HZ.out (by simp)
   have hSm := (zk5 24 hfit.long).small (show 34 ≤ 1048576 by omega)
   have hd5 : draws.length ≤ 5000 := by have h1 := HRD.out.len; have h2 := hfit.draws; omega
   have hg1 : Grow w (((w.alloc (.cells (stA V S.num) 29)).alloc (.cells (zdc e.op e.n e.m e.who e.a e.subs.length e.c x) 34)).plus (m1.and m2)) := grI
   have hb0 : Boxd (((w.alloc (.cells (stA V S.num) 29)).alloc (.cells (zdc e.op e.n e.m e.who e.a e.subs.length e.c x) 34)).plus (m1.and m2)) w.heap.size (stA V S.num) := (Boxd.new w _ 29).grow grI
   have hb1 : Boxd (((w.alloc (.cells (stA V S.num) 29)).alloc (.cells (zdc e.op e.n e.m e.who e.a e.subs.length e.c x) 34)).plus (m1.and m2)) (w.heap.size + 1) (zdc e.op e.n e.m e.who e.a e.subs.length e.c x) := (Boxd.new' (w := w.alloc (.cells (stA V S.num) 29)) (t := 34) (by rw [zaa])).grow grI
   obtain ⟨z, hz⟩ : ∃ z, z = w.heap.size + 1 + 1 + (m1.and m2).objs.size := ⟨_, rfl⟩
   have hzw : (((w.alloc (.cells (stA V S.num) 29)).alloc (.cells (zdc e.op e.n e.m e.who e.a e.subs.length e.c x) 34)).plus (m1.and m2)).heap.size = z := by rw [hz]; simp only [zac, zaa]
   rw [← hz]
   clear HLa HAl HZ HGW hfit hz
   generalize ((w.alloc (.cells (stA V S.num) 29)).alloc (.cells (zdc e.op e.n e.m e.who e.a e.subs.length e.c x) 34)).plus (m1.and m2) = W0 at *
   have HB0 := Lib.hid hb0
   have HB1 := Lib.hid hb1
   have HG1 := Lib.hid hg1
   have HSm := Lib.hid hSm
   obtain ⟨q1, q2, q3⟩ := hb0
   obtain ⟨r1, r2, r3⟩ := hb1
   have HTI : Hid (∀ W, Grow (W0.alloc (.cells (exR e.op e.n e.m e.who e.a e.subs.length e.c ++ exR e.op e.n e.m e.who e.a e.subs.length e.c) 32)) W → (e.two (some ⟨z, 0, none⟩) 2).In W (fun k => k < z + 1)) := fun W g => z8p hzw ((HI.out.grow hg1).more (fun k h => Nat.lt_of_lt_of_le h hg1.size)) 32 (by rw [Eff.row_is]; exact g)
   have HC := Lib.hid (fun W (g : Grow (W0.alloc (.cells (exR e.op e.n e.m e.who e.a e.subs.length e.c ++ exR e.op e.n e.m e.who e.a e.subs.length e.c) 32)) W) => by have := zkw _ W _ (HTI.out W g) x.kind; rw [Eff.row_is, Eff.two_row] at this; exact this)
   clear hg1 hSm
   by_cases hk : (e.two (some ⟨z, 0, none⟩) 2).check x.kind = 0
   · rw [hk, zat] at HC
     have HX := Lib.hid (z0b HQ0.out e (some ⟨z, 0, none⟩) 2 x hk)
     clear hk
     go_wp2_with (go_at_call 21; refine (HC.out _ grI).mono ?_; rintro e' w' ⟨rfl, m3, rfl⟩)
     have hg2 : Grow W0 (((W0.alloc (.cells (exR e.op e.n e.m e.who e.a e.subs.length e.c ++ exR e.op e.n e.m e.who e.a e.subs.length e.c) 32)).alloc (.cells (exR 21 0 0 0 (some ⟨z, 0, none⟩) 2 2) 32)).plus m3) := grI
     have hbt : Boxd (((W0.alloc (.cells (exR e.op e.n e.m e.who e.a e.subs.length e.c ++ exR e.op e.n e.m e.who e.a e.subs.length e.c) 32)).alloc (.cells (exR 21 0 0 0 (some ⟨z, 0, none⟩) 2 2) 32)).plus m3)  (z + 1) (exR 21 0 0 0 (some ⟨z, 0, none⟩) 2 2) := (Boxd.new' (w := W0.alloc (.cells (exR e.op e.n e.m e.who e.a e.subs.length e.c ++ exR e.op e.n e.m e.who e.a e.subs.length e.c) 32)) (t := 32) (by rw [zaa, hzw])).grow grI
     have hti := HTI.out (((W0.alloc (.cells (exR e.op e.n e.m e.who e.a e.subs.length e.c ++ exR e.op e.n e.m e.who e.a e.subs.length e.c) 32)).alloc (.cells (exR 21 0 0 0 (some ⟨z, 0, none⟩) 2 2) 32)).plus m3) grI
     have hsz : (((W0.alloc (.cells (exR e.op e.n e.m e.who e.a e.subs.length e.c ++ exR e.op e.n e.m e.who e.a e.subs.length e.c) 32)).alloc (.cells (exR 21 0 0 0 (some ⟨z, 0, none⟩) 2 2) 32)).plus m3).heap.size = z + 1 + 1 + m3.objs.size := by simp only [zac, zaa, hzw]
     clear HTI HC q1 q2 q3 r1 r2 r3
     generalize ((W0.alloc (.cells (exR e.op e.n e.m e.who e.a e.subs.length e.c ++ exR e.op e.n e.m e.who e.a e.subs.length e.c) 32)).alloc (.cells (exR 21 0 0 0 (some ⟨z, 0, none⟩) 2 2) 32)).plus m3 = W1 at *
     have HTI1 : Hid ((e.two (some ⟨z, 0, none⟩) 2).In W1 (fun k => k < W1.heap.size)) := hti.more (fun k (h : k < z + 1) => show k < W1.heap.size by omega)
     have hgw := HG1.out.trans hg2
     have HI1 : Hid (e.In W1 (fun k => k < W1.heap.size)) := (HI.out.grow hgw).more (fun k h => Nat.lt_of_lt_of_le h hgw.size)
     have hgl1 : GlobE W1 (fun k => W1.heap.size ≤ k) := HGL.out.kept (hgw.kept _) (fun k h => Or.inl (Nat.le_trans hgw.size h))
     have HNew := Lib.hid (fun W (g : Grow W1 W) => zpe S V W (HR.out.grow (hgw.trans g)) HSm.out (hgl1.base.grow g) sd draws (HRD.out.grow (hgw.trans g)) (by omega))
     have HGL1 := Lib.hid hgl1
     have HC0 := Lib.hid (HB0.out.grow hg2)
     have HC1 := Lib.hid (HB1.out.grow hg2)
     have HCT := Lib.hid hbt
     obtain ⟨q1, q2, q3⟩ := HC0.out
     have HGW := Lib.hid hgw
     have HCx := Lib.hid (fun W => ziy W e.op e.n e.m e.who e.a e.subs.length e.c x)
     clear hg2 hbt hti hsz hgw hgl1 HB0 HB1 HG1 HI HR HRD HGL HSm
     generalize Em.new S draws = E0 at *
     go_region_held3 (fun W => W.blk w.heap.size = stA V S.num) (simp [go_sem, *]) (first | (go_at_call 16; have _ := HM1; refine (HNew.out _ grI).mono ?_; rintro e' w' ⟨b2, own2, rfl, hem2, hown2, nN2, rfl⟩; have hD : Duo W1 _ b1 b2 E0 E0 := (by refine Duo.made ?_ ?_ ?_ HM1.out.1 HM1.out.2 hem2 (fun k hk => (hown2 k hk).1) <;> exact grI); (try simp only [zae] at hD); (try simp only [zad] at hD); have HD := Lib.hid hD; clear hem2 hown2 HM1 hD) | (go_at_call 16; refine (HNew.out _ grI).mono ?_; rintro e' w' ⟨b1, own1, rfl, hem1, hown1, nN1, rfl⟩; have HM1 := Lib.hid (And.intro hem1 (fun k hk => Nat.le_trans (Grow.size (show Grow W1 _ from grI)) (hown1 k hk).1)); clear hem1 hown1))
     clear q1 q2 q3
     rename Hid (Emt _ b1 own1 E0 ∧ _) => HM1
     clear HM1 HNew hzw
     generalize W1.plus (nN1.late.and nN2) = W2 at *
     have HDo := Lib.hid (fun W (g : Grow W2 W) => by have := (HD.out.grow g).exec HQ0.out (by omega) HGL1.out (e.two (some ⟨z, 0, none⟩) 2) x ht HTI1.out; rw [Eff.two_row] at this; exact this)
     rw [HX.out] at HDo
     obtain ⟨q1, q2, q3⟩ := HC0.out.grow HD.out.1
     obtain ⟨r1, r2, r3⟩ := HC1.out.grow HD.out.1
     obtain ⟨u1, u2, u3⟩ := HCT.out.grow HD.out.1
     go_wp2_with fail
     refine zam [0, 1, 2, 3] 4 [] (by kernel_rfl) (by kernel_rfl) ?_; simp only [zcg, List.getElem?_cons_zero, List.getElem?_cons_succ]; (repeat (go_big_quiet_step ( (go_at_call 9; first | refine Calls.grow2 (HCx.out _) | refine Calls.grow (HCx.out _)) ))); refine wpQuiet_nil ?_; rintro _ ⟨nx, rfl⟩
     go_wp2_with fail
     refine (HDo.out _ grI).mono ?_
     rintro e' W3 ⟨rfl, hD⟩
     clear HDo HD q1 q2 q3 r1 r2 r3 u1 u2 u3
     have HD := Lib.hid hD.symm
     clear hD
     have HDo := Lib.hid (fun W (g : Grow W3 W) => (HD.out.grow g).exec HQ0.out (by omega) HGL1.out e x ht HI1.out)
     have HQ1 := Lib.hid (HQ0.out.exec e x)
     generalize E0.exec e x = E1 at *
     obtain ⟨q1, q2, q3⟩ := HC0.out.grow HD.out.1
     obtain ⟨r1, r2, r3⟩ := HC1.out.grow HD.out.1
     obtain ⟨u1, u2, u3⟩ := HCT.out.grow HD.out.1
     go_wp2_with fail
     refine zam [0, 1, 2, 3, 4] 5 [] (by kernel_rfl) (by kernel_rfl) ?_; simp only [zcg, List.getElem?_cons_zero, List.getElem?_cons_succ]; (repeat (go_big_quiet_step ( (go_at_call 9; first | refine Calls.grow2 (HCx.out _) | refine Calls.grow (HCx.out _)) ))); refine wpQuiet_nil ?_; rintro _ ⟨nx, rfl⟩
     go_wp2_with fail
     refine (HDo.out _ grI).mono ?_
     rintro e' W4 ⟨rfl, hD⟩
     clear HDo HD q1 q2 q3 r1 r2 r3 u1 u2 u3
     have HD := Lib.hid hD
     clear hD
     have HDo := Lib.hid (fun W (g : Grow W4 W) => (HD.out.grow g).exec HQ1.out (by omega) HGL1.out e x ht HI1.out)
     have HQ2 := Lib.hid (HQ1.out.exec e x)
     generalize E1.exec e x = E2 at *
     obtain ⟨q1, q2, q3⟩ := HC0.out.grow HD.out.1
     obtain ⟨r1, r2, r3⟩ := HC1.out.grow HD.out.1
     obtain ⟨u1, u2, u3⟩ := HCT.out.grow HD.out.1
     go_wp2_with fail
     refine zam [0, 1, 2, 3, 4] 5 [] (by kernel_rfl) (by kernel_rfl) ?_; simp only [zcg, List.getElem?_cons_zero, List.getElem?_cons_succ]; (repeat (go_big_quiet_step ( (go_at_call 9; first | refine Calls.grow2 (HCx.out _) | refine Calls.grow (HCx.out _)) ))); refine wpQuiet_nil ?_; rintro _ ⟨nx, rfl⟩
     go_wp2_with fail
     refine (HDo.out _ grI).mono ?_
     rintro e' W5 ⟨rfl, hD⟩
     clear HDo HD q1 q2 q3 r1 r2 r3 u1 u2 u3
     have HD := Lib.hid hD
     clear hD
     have HErr : Hid (∀ q, q = b1 ∨ q = b2 → ∀ W, Grow W5 W → Calls Tryz.prog 17 #[.pointer (some ⟨q, 0, none⟩)] W fun e w' => e = .returned (errV E2.err) ∧ Grow W w') := fun q hq W g => by
      rcases hq with rfl | rfl
      · exact (HD.out.grow g).symm.err
      · exact (HD.out.grow g).err
     have HSta : Hid (∀ q, q = b1 ∨ q = b2 → ∀ W, Grow W5 W → Calls Tryz.prog 18 #[.pointer (some ⟨q, 0, none⟩)] W fun e w' => ∃ V' : SV, e = .returned (.agg (stA V' E2.state.num)) ∧ RepSt w' V' E2.state ∧ (∀ k, V'.uses k → W.heap.size ≤ k ∧ k < w'.heap.size) ∧ Grow W w') := fun q hq W g => by
      rcases hq with rfl | rfl
      · exact (HD.out.grow g).symm.state HQ2.out (by omega)
      · exact (HD.out.grow g).state HQ2.out (by omega)
     have HEvs : Hid (∀ q, q = b1 ∨ q = b2 → ∀ W, Grow W5 W → Calls Tryz.prog 25 #[.pointer (some ⟨q, 0, none⟩)] W fun e w' => ∃ s : Sl, e = .returned s.val ∧ Rows' w' s 6 (if E2.err ≠ 0 then [] else E2.evs) ∧ Grow W w') := fun q hq W g => by
      rcases hq with rfl | rfl
      · exact (HD.out.grow g).symm.events HQ2.out
      · exact (HD.out.grow g).events HQ2.out
     have HStS := Lib.hid (fun W V1 V2 (R1 : RepSt W V1 E2.state) (R2 : RepSt W V2 E2.state) => zp2 E2.state V1 V2 W R1 R2 HQ2.out.small)
     have HEvS := Lib.hid (fun W s1 s2 (R1 : Rows' W s1 6 (if E2.err ≠ 0 then [] else E2.evs)) (R2 : Rows' W s2 6 (if E2.err ≠ 0 then [] else E2.evs)) => zo1 W s1 s2 _ R1 R2 (Nat.le_trans HQ2.out.evs (by omega)))
     have HG5 : Hid (Grow w W5) := HGW.out.trans HD.out.1
     clear HD HQ0 HQ1 HQ2 HX HCx HGL1 HTI1 HI1 HC0 HC1 HCT HGW
     generalize (if E2.err ≠ 0 then [] else E2.evs) = L at *
     generalize E2.err = er at *
     generalize E2.state = T at *
     go_wp2_with (first | (go_at_call 17; refine (HErr.out _ (by first | exact Or.inl rfl | exact Or.inr rfl) _ grI).mono ?_; rintro e' w' ⟨rfl, nx, rfl⟩) | (go_at_call 22; refine (z7h _ _).mono ?_; rintro e' w' ⟨rfl, rfl⟩) | (go_at_call 18; have _ := HT1; refine (HSta.out _ (by first | exact Or.inl rfl | exact Or.inr rfl) _ grI).mono ?_; rintro e' w' ⟨V2, rfl, hT2, _, nx2, rfl⟩; (try simp only [zae] at hT2); (try simp only [zad] at hT2); have HT2 := Lib.hid hT2; clear hT2) | (go_at_call 18; refine (HSta.out _ (by first | exact Or.inl rfl | exact Or.inr rfl) _ grI).mono ?_; rintro e' w' ⟨V1, rfl, hT1, _, nx1, rfl⟩; (try simp only [zae] at hT1); (try simp only [zad] at hT1); have HT1 := Lib.hid hT1; clear hT1) | (go_at_call 23; refine (HStS.out _ V1 V2 (HT1.out.grow grI) (HT2.out.grow grI)).mono ?_; rintro e' w' ⟨rfl, nx3, rfl⟩) | (go_at_call 25; have _ := HL1; refine (HEvs.out _ (by first | exact Or.inl rfl | exact Or.inr rfl) _ grI).mono ?_; rintro e' w' ⟨s2, rfl, hL2, nx5, rfl⟩; (try simp only [zae] at hL2); (try simp only [zad] at hL2); have HL2 := Lib.hid hL2; clear hL2) | (go_at_call 25; refine (HEvs.out _ (by first | exact Or.inl rfl | exact Or.inr rfl) _ grI).mono ?_; rintro e' w' ⟨s1, rfl, hL1, nx4, rfl⟩; (try simp only [zae] at hL1); (try simp only [zad] at hL1); have HL1 := Lib.hid hL1; clear hL1) | (go_at_call 24; refine (HEvS.out _ s1 s2 (HL1.out.grow grI) (HL2.out.grow grI)).mono ?_; rintro e' w' ⟨rfl, nx6, rfl⟩))
     go_ret
     exact ⟨rfl, HG5.out.trans grI⟩
   · rw [zao hk] at HC
     clear hk
     go_wp2_with (go_at_call 21; refine (HC.out _ grI).mono ?_; rintro e' w' ⟨rfl, m3, rfl⟩)
     go_ret
     exact ⟨rfl, HG1.out.trans grI⟩
 · go_ret
   exact ⟨rfl, grI⟩
end Go.Proofs.YthfalocligkamaaGreatDoor
namespace Go.Proofs.YthfalocligkamaaGreatDoor
open Go Go.RowKit Go.ChangeShapes Go.WideShapes Go.ChangeAt
theorem zi4 (os : Os) (args : Array Value) : laidMetH Tryz.prog zlx ((World.doorLaid Tryz.prog 400 os).forCall (fun _ _ => 0) ⟨#[], args, []⟩).memory :=
 laidMetH_of_parts3 (fuel := 8) (laidMet_of_run' 8 (by kernel_rfl) (by kernel_rfl)) (by kernel_rfl) (by kernel_rfl)
def zkc : Value := .agg ((List.replicate 12 (Value.slice none 0 0) ++ List.replicate 25 (Value.int .i64 0)).toArray)
set_option maxRecDepth 100000 in
theorem zkd (os : Os) (started : os.Started) (H : Type) (enc : TypeId × Value → H) :
 ReturnsInHanded {} Tryz.checked os 5 .any (fun w args => (Rows.execSeqSpec.pre enc Tryz.prog Tryz.f5 [] false w args ∧ laidMetH Tryz.prog zlx w) ∧ sizedMet enc Tryz.prog Tryz.f5 (OpenSpec.ofChange Rows.execSeqSpec) false w args)
  (Rows.execSeqSpec.post enc Tryz.prog Tryz.f5 false true false false) := by
 refine returnsInHanded_of_change_and (C := Tryz.checked) (X := fun w _ => laidMetH Tryz.prog zlx w) (fun _ _ _ hh h => h.of_heap hh) zqz started (by kernel_rfl) Tryz.func5
  (ChangeSpec.witness_shaped (enc := enc) (C := Tryz.checked) (os := os) (X := fun w _ => laidMetH Tryz.prog zlx w) false (World.doorLaid Tryz.prog 400 os) #[zkc, .slice none 0 0, .agg #[.int .i64 0, .int .i64 0, .int .i64 0, .int .i64 0, .slice none 0 0, .int .i64 0, .int .i64 0, .int .i64 0, .int .i64 0]] 8 rfl (World.shaped_of_RefB (by kernel_rfl) (by kernel_rfl)) (by kernel_rfl) (by kernel_rfl) (by kernel_rfl) (zi4 os _)) ?_
 intro W base args ds gs before hval0 hW _ _ hL _
 have hval : ∀ (j : Nat) t v, Tryz.f5.params[j]? = some t → args[j]? = some v → Value.okWide Tryz.prog W .any base t v := hval0
 have hW' := hW
 obtain ⟨p, q, hA0, hV, rfl, _, _⟩ := hW
 have hA : DataW.TrodAll enc Tryz.prog W 0 (fun _ => true) true Tryz.f5.params.toList args.toList ds p := hA0
 rw [Tryz.params5] at hA hval
 obtain ⟨v0, v1, v2, d0, d1, d2, p0, p1, p2, rfl, rfl, rfl, h0, h1, h2⟩ := trodAll_three hA
 obtain ⟨rfl, rfl⟩ := trodVars_none hV
 obtain ⟨V0, S0, rfl, R0⟩ := zlc (hval 0 29 v0 rfl rfl) h0
 obtain ⟨s1, l1, rfl, A1, B1⟩ := znh (hval 1 23 v1 rfl rfl) h1
 obtain ⟨e2, x2, rfl, I2, T2⟩ := zqx (hval 2 34 v2 rfl rfl) h2
 refine (z7y S0 V0 W R0 (zdg hL) (fun W' g => zip W' ((zdg hL).kept (g.kept _) (fun _ hk => Or.inr (Nat.le_trans g.below.size hk)))) s1 l1 A1 B1 e2 x2 I2 T2).mono fun e W' ⟨he, hg⟩ => ?_
 subst he
 exact ⟨_, rfl, zqs zh5 hW' rfl (by kernel_rfl) Tryz.underlying4 (by kernel_rfl) rfl rfl rfl hg.below⟩
theorem zlq : Rows.ExecSeqSaid :=
 OpenClaim.holds_of_wide 5 Tryz.f5 rfl rfl rfl rfl rfl rfl rfl ⟨rfl, rfl, rfl, rfl, rfl⟩ rfl rfl rfl rfl rfl (by kernel_rfl) Tryz.func5 (by kernel_rfl)
  (of_decide_eq_true (by kernel_rfl)) (by unfold Func.isWrapper; first | (rw [if_pos (by decide +kernel)]; kernel_rfl) | (rw [if_neg (by decide +kernel)]; exact ⟨rfl, rfl⟩))
  (fun os started H enc _ => zkd os started H enc)
end Go.Proofs.YthfalocligkamaaGreatDoor
namespace Go.Proofs.YthfalocligkamaaGreatDoor
open Go
theorem execSeq_holds : Rows.ExecSeqCardSaid :=
 Claim7.holds_tied_plain_at .later [] [.data, .data, .widerDeep, .data] true (true, "a942ba97d376df00589286b7d4fd8ac35564eab8344dff009d50cba75b3272e4") true
  zlq (fun _ h => by cases h) (by kernel_rfl) (fun _ h => by cases h) execSeq_row_tie rfl ⟨rfl, rfl⟩ (by kernel_rfl) rfl
  (fun f fn hf hfn => by
    obtain rfl : f = 5 := Option.some.inj (hf.symm.trans (by kernel_rfl))
    obtain rfl : fn = Tryz.f5 := (Option.some.inj (Tryz.func5.symm.trans hfn)).symm
    exact ⟨by kernel_rfl, fun j t ht => by
     rw [Tryz.params5] at ht
     have hm : t ∈ [29, 23, 34] := by simpa using Array.mem_of_getElem? ht
     have hall : ([29, 23, 34].all fun u => !Tryz.prog.wantsStandIn u) = true := by kernel_rfl
     exact (show Tryz.prog.wantsStandIn t = false by simpa using List.all_eq_true.1 hall t hm)⟩)
  (by kernel_rfl)
end Go.Proofs.YthfalocligkamaaGreatDoor
