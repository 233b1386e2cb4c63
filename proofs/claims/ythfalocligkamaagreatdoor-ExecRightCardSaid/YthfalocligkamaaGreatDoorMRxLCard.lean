/- The law ExecRight, walked. The law ExecRight holds for any input. The law ExecRight holds for any input: the tied card. -/
import Derived.Test.YthfalocligkamaaGreatDoorMEx17
import Derived.Test.YthfalocligkamaaGreatDoorMEf9
import Derived.Test.YthfalocligkamaaGreatDoorMRefChk
import Derived.Test.YthfalocligkamaaGreatDoorMLawS
import Derived.Test.YthfalocligkamaaGreatDoorMEx4
import Derived.Test.YthfalocligkamaaGreatDoorCards
import Derived.Test.YthfalocligkamaaGreatDoorTie
namespace Go.Proofs.YthfalocligkamaaGreatDoor
open Go Go.RowKit Go.Shelf
set_option maxRecDepth 100000 in
set_option maxHeartbeats 8000000 in
theorem ztr (S : St) (V : SV) (w : World) (R : RepSt w V S) (GL : GlobE w (fun k => w.heap.size ≤ k)) (HA : ∀ W, Grow w W → Calls Tryz.prog 6 #[] W fun e w' => e = .returned (.bool true) ∧ Grow W w')
 (sd : Sl) (draws : List Int) (RD : Ints w sd draws) (hsd : sd.n ≤ 9223372036854775807) (e : Eff) (x : Ctx) (hI : e.In w (fun k => k < w.heap.size)) (ht : x.tgt ≤ 9223372036854775807) :
 Calls Tryz.prog 4 #[.agg (stA V S.num), sd.val, .agg (zdc e.op e.n e.m e.who e.a e.subs.length e.c x)] w fun e w' => e = .returned (.bool true) ∧ Grow w w' := by
 have HAl := Lib.hid HA
 have HLa := Lib.hid (fun W (g : Grow w W) => znb S V W (R.grow g) sd hsd e x _ (hI.grow g))
 have HR := Lib.hid R
 have HGL := Lib.hid GL
 have HRD := Lib.hid RD
 have HI := Lib.hid hI
 have hwid : ze3 S := fun i hi => R.objs.wid i hi
 have HQ0 := Lib.hid (zqt hwid draws)
 have HRP := Lib.hid (zpq hwid draws e x)
 have hSn := R.objs.len
 clear R GL HA RD hI hwid
 go_enter Tryz.func4, Tryz.ntmps4
 go_wp2_with (first | (go_at_call 6; refine (HAl.out _ grI).mono ?_; rintro e' w' ⟨rfl, m1, rfl⟩) | (go_at_call 15; refine (HLa.out _ grI).mono ?_; rintro e' w' ⟨⟨z, rfl, hz⟩, m2, rfl⟩; have HZ := Lib.hid hz; clear hz; cases z))
 · have hfit := HZ.out (by simp)
   have hSm := (zk5 24 hfit.long).small (show 34 ≤ 1048576 by omega)
   have hd5 : draws.length ≤ 5000 := by have h1 := HRD.out.len; have h2 := hfit.draws; omega
   have HLim := Lib.hid hfit.lim
   have HNew := Lib.hid (fun W (g : Grow w W) => zpe S V W (HR.out.grow g) hSm (HGL.out.base.grow g) sd draws (HRD.out.grow g) (by omega))
   clear HLa HAl HZ hfit hSm
   generalize Em.new S draws = E0 at *
   go_wp2_with (go_at_call 16; refine (HNew.out _ grI).mono ?_; rintro e' w' ⟨b, own, rfl, hem, hown, nN, rfl⟩; have HEM := Lib.hid hem; have HOW := Lib.hid hown; clear hem hown)
   have hem := HEM.out
   have how := HOW.out
   (try simp only [zae] at hem); (try simp only [zad] at hem)
   have hown1 : ∀ k, own k → w.heap.size + 2 ≤ k := fun k hk => by
    have h1 := (how k hk).1
    simp only [zac, zaa] at h1
    omega
   have hg1 : Grow w (((w.alloc (.cells (stA V S.num) 29)).alloc (.cells (zdc e.op e.n e.m e.who e.a e.subs.length e.c x) 34)).plus ((m1.and m2).and nN)) := grI
   have hb0 : Boxd (((w.alloc (.cells (stA V S.num) 29)).alloc (.cells (zdc e.op e.n e.m e.who e.a e.subs.length e.c x) 34)).plus ((m1.and m2).and nN)) w.heap.size (stA V S.num) := (Boxd.new w _ 29).grow grI
   have hb1 : Boxd (((w.alloc (.cells (stA V S.num) 29)).alloc (.cells (zdc e.op e.n e.m e.who e.a e.subs.length e.c x) 34)).plus ((m1.and m2).and nN)) (w.heap.size + 1) (zdc e.op e.n e.m e.who e.a e.subs.length e.c x) := (Boxd.new' (w := w.alloc (.cells (stA V S.num) 29)) (t := 34) (by rw [zaa])).grow grI
   clear HEM HOW how HNew
   generalize (((w.alloc (.cells (stA V S.num) 29)).alloc (.cells (zdc e.op e.n e.m e.who e.a e.subs.length e.c x) 34)).plus ((m1.and m2).and nN)) = W1 at *
   have hgl1 : GlobE W1 own := HGL.out.kept (hg1.kept _) (fun k hk => Or.inl (by have := hown1 k hk; omega))
   have HDo := Lib.hid (fun W (g : Grow W1 W) => zp6 W b own E0 (hem.grow g) HQ0.out (by omega) (hgl1.grow g) e x ht (fun k => k < w.heap.size) (HI.out.grow (hg1.trans g)) (fun k hk (hl : k < w.heap.size) => by have := hown1 k hk; omega) (fun k hl => Nat.lt_of_lt_of_le hl (hg1.trans g).size))
   have HCx := Lib.hid (fun W => ziy W e.op e.n e.m e.who e.a e.subs.length e.c x)
   have HEM := Lib.hid hem
   have HOW := Lib.hid hown1
   have HG1 := Lib.hid hg1
   have HB0 := Lib.hid hb0
   have HB1 := Lib.hid hb1
   obtain ⟨r1, r2, r3⟩ := hb1
   have HQ1 := Lib.hid (HQ0.out.exec e x)
   clear hem hown1 hg1 hgl1 hb0 HQ0 HRD
   generalize E0.exec e x = E1 at *
   go_wp2_with fail
   refine zam [0, 1, 2, 3, 4] 5 [] (by kernel_rfl) (by kernel_rfl) ?_; simp only [zcg, List.getElem?_cons_zero, List.getElem?_cons_succ]; (repeat (go_big_quiet_step ( (go_at_call 9; first | refine Calls.grow2 (HCx.out _) | refine Calls.grow (HCx.out _)) ))); refine wpQuiet_nil ?_; rintro _ ⟨nx, rfl⟩
   go_wp2_with fail
   refine (HDo.out _ grI).mono ?_
   rintro e' W2 ⟨rfl, hE⟩
   obtain ⟨own2, T2⟩ := (Turn.first HEM.out).step grI hE
   have HC0 := Lib.hid (HB0.out.kept T2.kept (fun h => by have := HOW.out _ h; omega))
   have HC1 := Lib.hid (HB1.out.kept T2.kept (fun h => by have := HOW.out _ h; omega))
   have HG2 := Lib.hid (T2.kept.grow_of HG1.out (fun k hk => by have := HOW.out k hk; omega) : Grow w W2)
   have HT2 := Lib.hid T2
   clear hE T2 HDo HCx HB0 HB1 HEM HOW HG1 r1 r2 r3 HGL
   by_cases he : E1.err = 0
   · have HEr := Lib.hid (fun W (g : Grow W2 W) => by have := zap W b own2 E1 (HT2.out.em.grow g); rw [he, zat] at this; exact this)
     have HSt := Lib.hid (fun W (g : Grow W2 W) => zbo W b own2 E1 (HT2.out.em.grow g) (HQ1.out.mo (by omega)))
     have hs : E1.state = E1.now := by unfold Em.state; rw [if_neg (by rw [he]; simp)]
     obtain ⟨hck, hst⟩ := HRP.out he
     have hsmT := HQ1.out.small
     rw [hs] at HSt hsmT
     have HSmT := Lib.hid hsmT
     have HCk := Lib.hid (fun (W : World) (V' : SV) (R' : RepSt W V' E1.now) => by have := znp E1.now V' W R' HSmT.out; rw [hck] at this; exact this)
     have HHas := Lib.hid (fun op W (g : Grow W2 W) => by have := zqj e HLim.out W _ (HI.out.grow (HG2.out.trans g)) op; rw [Eff.row_is] at this; exact this)
     have hl5 : ¬ E1.now.objs.length < S.objs.length := by have := hst.len; omega
     have HST := Lib.hid hst
     have hSM : S.objs.length ≤ 1048576 := by have := hst.len; have := hsmT.objs; omega
     clear he hs hck hst hsmT HSmT HQ1 HT2 HRP HLim
     generalize E1.now = T at *
     go_wp2_with (first | (go_at_call 17; refine (HEr.out _ grI).mono ?_; rintro e' w' ⟨rfl, n5, rfl⟩) | (go_at_call 18; refine (HSt.out _ grI).mono ?_; rintro e' w' ⟨V', rfl, hR', _, n6, rfl⟩; (try simp only [zae] at hR'); (try simp only [zad] at hR'); have hn6 := hR'.objs.len; have HR' := Lib.hid hR'; clear hR'))
     obtain ⟨q8, hq8⟩ : ∃ q, q = W2.heap.size + (n5.and n6).objs.size := ⟨_, rfl⟩
     have hb8 : Boxd ((W2.plus (n5.and n6)).alloc (.cells (stA V' T.num) 29)) q8 (stA V' T.num) := Boxd.new' (by rw [hq8]; simp only [zac])
     have hgX : Grow W2 ((W2.plus (n5.and n6)).alloc (.cells (stA V' T.num) 29)) := grI
     have hr8 : RepSt ((W2.plus (n5.and n6)).alloc (.cells (stA V' T.num) 29)) V' T := HR'.out.grow grI
     rw [← hq8]
     clear hq8 HR' HEr HSt
     generalize ((W2.plus (n5.and n6)).alloc (.cells (stA V' T.num) 29)) = W3 at *
     have HB0 := Lib.hid (HC0.out.grow hgX)
     have HB1 := Lib.hid (HC1.out.grow hgX)
     have HB8 := Lib.hid hb8
     have HR8 := Lib.hid hr8
     have HGX := Lib.hid hgX
     have HG3 := Lib.hid (HG2.out.trans hgX)
     clear hgX hr8 HC0 HC1
     obtain ⟨q1, q2, q3⟩ := HB0.out
     obtain ⟨r1, r2, r3⟩ := HB1.out
     obtain ⟨u1, u2, u3⟩ := hb8
     have h14 : S.objs.length < T.objs.length → e.has 14 = true := fun hm => by
      cases h : e.has 14
      · have := HST.out.more (by rw [h]; simp); omega
      · rfl
     by_cases hm : S.objs.length < T.objs.length
     · have h14 := h14 hm
       go_wp2_with (first | (go_at_call 19; refine (HCk.out _ V' (HR8.out.grow grI)).mono ?_; rintro e' w' ⟨rfl, n7, rfl⟩) | (go_at_call 20; refine (HHas.out _ _ (HGX.out.trans grI)).mono ?_; rintro e' w' ⟨rfl, n8, rfl⟩))
       clear q1 q2 q3 r1 r2 r3 u1 u2 u3
       go_loopw [62] (fun i wr => ∃ k : Nat, k ≤ S.objs.length ∧ i = .int .i64 k ∧ Grow W3 wr) (fun i _ => S.objs.length - (intOf i).toNat)
       case atStart => exact ⟨0, by omega, rfl, grI⟩
       case round =>
        obtain ⟨k, hk, rfl, hG⟩ := hrel
        have HG := Lib.hid hG
        obtain ⟨u1, u2, u3⟩ := HB8.out.grow hG
        by_cases hlt : k < S.objs.length
        · obtain ⟨a1, a2, a3, a4, _⟩ := (HR.out.grow (HG3.out.trans hG)).objs.at (by omega) k hlt
          obtain ⟨b1, b2, b3, b4, _⟩ := (HR8.out.grow hG).objs.at (by omega) k (by omega)
          have c0 := HST.out.same k hlt 0 (by omega)
          have c1 := HST.out.same k hlt 1 (by omega)
          have c13 := HST.out.same k hlt 13 (by omega)
          have hkT : k < T.objs.length := by omega
          generalize rowAt S.objs k = o at *
          generalize rowAt T.objs k = u at *
          clear hG
          go_wp2_with fail
          clear a1 a3 a4 b1 b3 b4
          go_roundw
          case rel => exact ⟨k + 1, by omega, by go_num, HG.out.trans grI⟩
          case measure => simp [intOf]; omega
        · obtain ⟨q1, q2, q3⟩ := HB0.out.grow hG
          obtain ⟨r1, r2, r3⟩ := HB1.out.grow hG
          clear hG
          by_cases hcu : T.num 23 = S.num 23
          · go_wp2_with fail
            go_ret
            exact ⟨rfl, HG3.out.trans (HG.out.trans grI)⟩
          · have hcb : (T.num 23 == S.num 23) = false := by simpa using hcu
            cases h18 : e.has 18
            · have h19 : e.has 19 = true := by
               cases h19 : e.has 19
               · exact absurd (HST.out.cur (by rw [h18, h19]; simp)) hcu
               · rfl
              clear hcu
              go_wp2_with (first | (go_at_call 19; refine (HCk.out _ V' (HR8.out.grow grI)).mono ?_; rintro e' w' ⟨rfl, n7, rfl⟩) | (go_at_call 20; refine (HHas.out _ _ (HGX.out.trans (HG.out.trans grI))).mono ?_; rintro e' w' ⟨rfl, n8, rfl⟩))
              go_ret
              exact ⟨rfl, HG3.out.trans (HG.out.trans grI)⟩
            · clear hcu
              go_wp2_with (first | (go_at_call 19; refine (HCk.out _ V' (HR8.out.grow grI)).mono ?_; rintro e' w' ⟨rfl, n7, rfl⟩) | (go_at_call 20; refine (HHas.out _ _ (HGX.out.trans (HG.out.trans grI))).mono ?_; rintro e' w' ⟨rfl, n8, rfl⟩))
              go_ret
              exact ⟨rfl, HG3.out.trans (HG.out.trans grI)⟩
     · clear h14
       go_wp2_with (first | (go_at_call 19; refine (HCk.out _ V' (HR8.out.grow grI)).mono ?_; rintro e' w' ⟨rfl, n7, rfl⟩) | (go_at_call 20; refine (HHas.out _ _ (HGX.out.trans grI)).mono ?_; rintro e' w' ⟨rfl, n8, rfl⟩))
       clear q1 q2 q3 r1 r2 r3 u1 u2 u3
       go_loopw [62] (fun i wr => ∃ k : Nat, k ≤ S.objs.length ∧ i = .int .i64 k ∧ Grow W3 wr) (fun i _ => S.objs.length - (intOf i).toNat)
       case atStart => exact ⟨0, by omega, rfl, grI⟩
       case round =>
        obtain ⟨k, hk, rfl, hG⟩ := hrel
        have HG := Lib.hid hG
        obtain ⟨u1, u2, u3⟩ := HB8.out.grow hG
        by_cases hlt : k < S.objs.length
        · obtain ⟨a1, a2, a3, a4, _⟩ := (HR.out.grow (HG3.out.trans hG)).objs.at (by omega) k hlt
          obtain ⟨b1, b2, b3, b4, _⟩ := (HR8.out.grow hG).objs.at (by omega) k (by omega)
          have c0 := HST.out.same k hlt 0 (by omega)
          have c1 := HST.out.same k hlt 1 (by omega)
          have c13 := HST.out.same k hlt 13 (by omega)
          have hkT : k < T.objs.length := by omega
          generalize rowAt S.objs k = o at *
          generalize rowAt T.objs k = u at *
          clear hG
          go_wp2_with fail
          clear a1 a3 a4 b1 b3 b4
          go_roundw
          case rel => exact ⟨k + 1, by omega, by go_num, HG.out.trans grI⟩
          case measure => simp [intOf]; omega
        · obtain ⟨q1, q2, q3⟩ := HB0.out.grow hG
          obtain ⟨r1, r2, r3⟩ := HB1.out.grow hG
          clear hG
          by_cases hcu : T.num 23 = S.num 23
          · go_wp2_with fail
            go_ret
            exact ⟨rfl, HG3.out.trans (HG.out.trans grI)⟩
          · have hcb : (T.num 23 == S.num 23) = false := by simpa using hcu
            cases h18 : e.has 18
            · have h19 : e.has 19 = true := by
               cases h19 : e.has 19
               · exact absurd (HST.out.cur (by rw [h18, h19]; simp)) hcu
               · rfl
              clear hcu
              go_wp2_with (first | (go_at_call 19; refine (HCk.out _ V' (HR8.out.grow grI)).mono ?_; rintro e' w' ⟨rfl, n7, rfl⟩) | (go_at_call 20; refine (HHas.out _ _ (HGX.out.trans (HG.out.trans grI))).mono ?_; rintro e' w' ⟨rfl, n8, rfl⟩))
              go_ret
              exact ⟨rfl, HG3.out.trans (HG.out.trans grI)⟩
            · clear hcu
              go_wp2_with (first | (go_at_call 19; refine (HCk.out _ V' (HR8.out.grow grI)).mono ?_; rintro e' w' ⟨rfl, n7, rfl⟩) | (go_at_call 20; refine (HHas.out _ _ (HGX.out.trans (HG.out.trans grI))).mono ?_; rintro e' w' ⟨rfl, n8, rfl⟩))
              go_ret
              exact ⟨rfl, HG3.out.trans (HG.out.trans grI)⟩
   · have HEr := Lib.hid (fun W (g : Grow W2 W) => by have := zap W b own2 E1 (HT2.out.em.grow g); rw [zao he] at this; exact this)
     clear he
     go_wp2_with (go_at_call 17; refine (HEr.out _ grI).mono ?_; rintro e' w' ⟨rfl, nx, rfl⟩)
     go_ret
     exact ⟨rfl, HG2.out.trans grI⟩
 · go_ret
   exact ⟨rfl, grI⟩
end Go.Proofs.YthfalocligkamaaGreatDoor
namespace Go.Proofs.YthfalocligkamaaGreatDoor
open Go Go.RowKit Go.ChangeShapes Go.WideShapes Go.ChangeAt
theorem zhj (os : Os) (args : Array Value) : laidMetH Tryz.prog zlx ((World.doorLaid Tryz.prog 400 os).forCall (fun _ _ => 0) ⟨#[], args, []⟩).memory :=
 laidMetH_of_parts3 (fuel := 8) (laidMet_of_run' 8 (by kernel_rfl) (by kernel_rfl)) (by kernel_rfl) (by kernel_rfl)
def zic : Value := .agg ((List.replicate 12 (Value.slice none 0 0) ++ List.replicate 25 (Value.int .i64 0)).toArray)
set_option maxRecDepth 100000 in
theorem zid (os : Os) (started : os.Started) (H : Type) (enc : TypeId × Value → H) :
 ReturnsInHanded {} Tryz.checked os 4 .any (fun w args => (Rows.execRightSpec.pre enc Tryz.prog Tryz.f4 [] false w args ∧ laidMetH Tryz.prog zlx w) ∧ sizedMet enc Tryz.prog Tryz.f4 (OpenSpec.ofChange Rows.execRightSpec) false w args)
  (Rows.execRightSpec.post enc Tryz.prog Tryz.f4 false true false false) := by
 refine returnsInHanded_of_change_and (C := Tryz.checked) (X := fun w _ => laidMetH Tryz.prog zlx w) (fun _ _ _ hh h => h.of_heap hh) zqz started (by kernel_rfl) Tryz.func4
  (ChangeSpec.witness_shaped (enc := enc) (C := Tryz.checked) (os := os) (X := fun w _ => laidMetH Tryz.prog zlx w) false (World.doorLaid Tryz.prog 400 os) #[zic, .slice none 0 0, .agg #[.int .i64 0, .int .i64 0, .int .i64 0, .int .i64 0, .slice none 0 0, .int .i64 0, .int .i64 0, .int .i64 0, .int .i64 0]] 8 rfl (World.shaped_of_RefB (by kernel_rfl) (by kernel_rfl)) (by kernel_rfl) (by kernel_rfl) (by kernel_rfl) (zhj os _)) ?_
 intro W base args ds gs before hval0 hW _ _ hL _
 have hval : ∀ (j : Nat) t v, Tryz.f4.params[j]? = some t → args[j]? = some v → Value.okWide Tryz.prog W .any base t v := hval0
 have hW' := hW
 obtain ⟨p, q, hA0, hV, rfl, _, _⟩ := hW
 have hA : DataW.TrodAll enc Tryz.prog W 0 (fun _ => true) true Tryz.f4.params.toList args.toList ds p := hA0
 rw [Tryz.params4] at hA hval
 obtain ⟨v0, v1, v2, d0, d1, d2, p0, p1, p2, rfl, rfl, rfl, h0, h1, h2⟩ := trodAll_three hA
 obtain ⟨rfl, rfl⟩ := trodVars_none hV
 obtain ⟨V0, S0, rfl, R0⟩ := zlc (hval 0 29 v0 rfl rfl) h0
 obtain ⟨s1, l1, rfl, A1, B1⟩ := znh (hval 1 23 v1 rfl rfl) h1
 obtain ⟨e2, x2, rfl, I2, T2⟩ := zqx (hval 2 34 v2 rfl rfl) h2
 refine (ztr S0 V0 W R0 (zdg hL) (fun W' g => zip W' ((zdg hL).kept (g.kept _) (fun _ hk => Or.inr (Nat.le_trans g.below.size hk)))) s1 l1 A1 B1 e2 x2 I2 T2).mono fun e W' ⟨he, hg⟩ => ?_
 subst he
 exact ⟨_, rfl, zqs zh5 hW' rfl (by kernel_rfl) Tryz.underlying4 (by kernel_rfl) rfl rfl rfl hg.below⟩
theorem zi7 : Rows.ExecRightSaid :=
 OpenClaim.holds_of_wide 4 Tryz.f4 rfl rfl rfl rfl rfl rfl rfl ⟨rfl, rfl, rfl, rfl, rfl⟩ rfl rfl rfl rfl rfl (by kernel_rfl) Tryz.func4 (by kernel_rfl)
  (of_decide_eq_true (by kernel_rfl)) (by unfold Func.isWrapper; first | (rw [if_pos (by decide +kernel)]; kernel_rfl) | (rw [if_neg (by decide +kernel)]; exact ⟨rfl, rfl⟩))
  (fun os started H enc _ => zid os started H enc)
end Go.Proofs.YthfalocligkamaaGreatDoor
namespace Go.Proofs.YthfalocligkamaaGreatDoor
open Go
theorem execRight_holds : Rows.ExecRightCardSaid :=
 Claim7.holds_tied_plain_at .later [] [.data, .data, .widerDeep, .data] true (true, "a942ba97d376df00589286b7d4fd8ac35564eab8344dff009d50cba75b3272e4") true
  zi7 (fun _ h => by cases h) (by kernel_rfl) (fun _ h => by cases h) execRight_row_tie rfl ⟨rfl, rfl⟩ (by kernel_rfl) rfl
  (fun f fn hf hfn => by
    obtain rfl : f = 4 := Option.some.inj (hf.symm.trans (by kernel_rfl))
    obtain rfl : fn = Tryz.f4 := (Option.some.inj (Tryz.func4.symm.trans hfn)).symm
    exact ⟨by kernel_rfl, fun j t ht => by
     rw [Tryz.params4] at ht
     have hm : t ∈ [29, 23, 34] := by simpa using Array.mem_of_getElem? ht
     have hall : ([29, 23, 34].all fun u => !Tryz.prog.wantsStandIn u) = true := by kernel_rfl
     exact (show Tryz.prog.wantsStandIn t = false by simpa using List.all_eq_true.1 hall t hm)⟩)
  (by kernel_rfl)
end Go.Proofs.YthfalocligkamaaGreatDoor
