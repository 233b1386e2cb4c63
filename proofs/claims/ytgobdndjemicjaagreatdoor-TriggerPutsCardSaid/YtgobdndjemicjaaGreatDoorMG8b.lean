/- The walk of the document's Put: to another list. -/
import Derived.Test.YtgobdndjemicjaaGreatDoorMG4
namespace Go.Proofs.YtgobdndjemicjaaGreatDoor
open Go Go.RowKit Go.Shelf
set_option maxRecDepth 100000 in
set_option maxHeartbeats 8000000 in
theorem zto (T8 : zem) (w : World) (b : Nat) (own : Nat → Prop) (E : Em) (R : Gmt w b own E) (he : E.err = 0) (hR : Right E.now) (hw : ∀ i, i < E.now.objs.length → (rowAt E.now.objs i).length = 18) (a : Nat) (ha : a < E.now.objs.length) (base : Int) (hb : zfw base = true) (hn : E.evs.length + 14 ≤ 65536) (hpl : E.pend.length ≤ 65536) (hs : zd9 (rowAt E.now.objs a) base ≠ gt (rowAt E.now.objs a) 3) :
 Calls Tryz.prog 84 #[.pointer (some ⟨b, 0, none⟩), .int .i64 (a : Int), .int .i64 base] w fun r w' => r = .returned (.tuple #[]) ∧ DPost w b own (E.put a base) w' := by
 obtain ⟨z, c, hz, hz11, hc, hcl, hca⟩ := hR.zon.idx a ha
 obtain ⟨d, hd, hd11, hst⟩ := zn7 hR ha hb
 have hzd0 : z ≠ d := by rw [hd, hz] at hs; omega
 clear hs
 have HZD := Lib.hid hzd0
 clear hzd0
 have hev : E.now.putEv a d = [1, (a : Int), (z : Int), (c : Int), (d : Int), ((zau E.now z c d).length : Int)] := by
  unfold St.putEv
  rw [Int.toNat_natCast, hz]
  simp only [Int.toNat_natCast, hc]
  have : ((E.now.list d).length : Int) - (if (z : Int) = d then 1 else 0) = ((zau E.now z c d).length : Int) := by
   unfold zau
   by_cases e : d = z
   · subst e; rw [if_pos rfl, if_pos rfl, zhw _ _ hcl]; omega
   · rw [if_neg e, if_neg (by omega)]; omega
  rw [this]
 have hdo : zd5 E.now (E.now.putEv a d) = .ok (zb3 E.now a z c d (zau E.now z c d).length) := by rw [hev, znt _ _ _ _ _ _ hz11 hd11, zrr _ _ _ _ _ _ ha hcl hca (Nat.le_refl _)]
 have hsm1 := (zlm hR.smallN hdo).small (show 401 ≤ 1048576 by omega)
 have hA : EmAt E { E.now with list := (zb3 E.now a z c d (zau E.now z c d).length).list } a ((rowAt E.now.objs a).set 3 d) (E.evs.length + 1) (E.do1 (E.now.putEv a d)) := by
  unfold Em.do1
  rw [if_neg (by rw [he]; simp), hdo]
  show EmAt _ _ _ _ _ (if E.evs.length < 65536 then _ else _)
  rw [if_pos (by omega)]
  exact ⟨he, rfl, rfl, rfl, by rw [List.length_append]; show E.evs.length + 1 ≤ _; omega, by rw [List.length_set]; exact hw a ha⟩
 have hsmS : Small { E.now with list := (zb3 E.now a z c d (zau E.now z c d).length).list } := ⟨by have := hR.many; show E.now.objs.length ≤ _; omega, hsm1.list⟩
 have hf : RowFine E.now.objs.length (rowAt E.now.objs a) := ⟨hR.row ha, hw a ha⟩
 have hput : E.put a base = ((E.do1 (E.now.putEv a d)).put2 a (gt (rowAt E.now.objs a) 3) d (gt (rowAt E.now.objs a) 1)).put3 a (gt (rowAt E.now.objs a) 3) d base (gt (rowAt E.now.objs a) 2) := by
  unfold Em.put
  rw [if_neg (by rw [he]; simp), if_neg (by omega), if_neg (by rw [hb]; simp)]
  simp only [Int.toNat_natCast, hd]
 have hsm0 := hR.smallN.small (show 400 ≤ 1048576 by omega)
 have hown := R.lt
 have HR0 := Lib.hid R
 obtain ⟨V, sd, se, sp, hr, ho⟩ := R
 obtain ⟨qb, qw, qsz, qsub, hrow⟩ := hr.host.rep.objs.at (by omega) a ha
 clear hrow
 have hN := hr.host.rep.objs.len
 obtain ⟨_, _, _, hc40⟩ := hr.cells
 rw [he] at hc40
 have hH := hr.host
 have hcell := zae (hH).free (hH).blk; have hfz := zag (hH).free; have hset := zah (hH).free (hH).blk; have hblk := (hH).blk; have hfree := (hH).free; have hlt := (hH).lt; have hne1 : ¬ b = (w).heap.size := (by omega); have hne2 : ¬ (w).heap.size = b := (by omega)
 have hb0 : w.cell? ⟨b, 0, none⟩ = some V.objs.val := (hcell 0).trans (zmh _ _ _)
 have hbz : w.cell? ⟨b, 1 + z, none⟩ = some (V.list z).val := (hcell _).trans (zcx _ _ _ _ hz11)
 have hbd : w.cell? ⟨b, 1 + d, none⟩ = some (V.list d).val := (hcell _).trans (zcx _ _ _ _ hd11)
 have hlz := (hr.host.rep.list z hz11).len
 have hld := (hr.host.rep.list d hd11).len
 have HI := Lib.hid (fun W (g : Grow w W) => by have := zp8 W (V.list z) (E.now.list z) a ((hr.host.rep.list z hz11).grow g) (hsm0.list z hz11); rw [hc] at this; exact this)
 have g1 : 0 ≤ gt (rowAt E.now.objs a) 1 ∧ gt (rowAt E.now.objs a) 1 ≤ 1 := zdn _ _ hf.ok 1 (by omega)
 have g13 : 0 ≤ gt (rowAt E.now.objs a) 13 ∧ gt (rowAt E.now.objs a) 13 ≤ 2 := zdn _ _ hf.ok 13 (by omega)
 have HHo := Lib.hid (fun W => by have := zxb (rowAt E.now.objs a) (hw a ha) g1.1 g1.2 g13.1 g13.2 base hb W; rw [hd] at this; exact this)
 have HDo := Lib.hid (fun W (g : Grow w W) => by have := zp0 W b own E (HR0.out.grow g) hsm0 (fun _ => by omega) [1, (a : Int), (z : Int), (c : Int), (d : Int), ((zau E.now z c d).length : Int)] rfl (by simp [gt]) (by simp [gt]); exact this)
 have hlen : ((zau E.now z c d).length : Int) = ((E.now.list d).length : Int) - (if z = d then 1 else 0) := by
  unfold zau
  by_cases e : d = z
  · subst e; rw [if_pos rfl, if_pos rfl, zhw _ _ hcl]; omega
  · rw [if_neg e, if_neg (by omega)]; omega
 rw [hput, hev]
 rw [hev] at hA
 generalize hFin : (((E.do1 [1, (a : Int), (z : Int), (c : Int), (d : Int), ((zau E.now z c d).length : Int)]).put2 a (gt (rowAt E.now.objs a) 3) d (gt (rowAt E.now.objs a) 1)).put3 a (gt (rowAt E.now.objs a) 3) d base (gt (rowAt E.now.objs a) 2)) = EF
 have haS : a < ({ E.now with list := (zb3 E.now a z c d (zau E.now z c d).length).list } : St).objs.length := ha
 have HA := Lib.hid hA
 have HSm := Lib.hid hsmS
 have HF := Lib.hid hf
 have HL := Lib.hid hown
 have HT := Lib.hid T8
 have HB := Lib.hid hb
 have HRt := Lib.hid hR
 have hlist := hsm0.list d hd11
 have a1 : (a : Int) < (E.now.objs.length : Int) := by omega
 have a2 : (E.now.objs.length ≤ a) = False := by simp; omega
 have a3 : ((E.now.objs.length : Int) ≤ (a : Int)) = False := by simp; omega
 have a0 : (0 : Int) ≤ (a : Int) := by omega
 have z1 : (z : Int) < 11 := by omega
 have z0 : (0 : Int) ≤ (z : Int) := by omega
 have d1 : (d : Int) < 11 := by omega
 have d0 : (0 : Int) ≤ (d : Int) := by omega
 go_enter Tryz.func84, Tryz.ntmps84
 go_upto_region 3 with fail
 go_cut [32, 33, 34, 35, 36, 37, 38, 39, 40, 41, 42, 43, 44, 45, 46, 47, 48, 49, 50, 51, 52, 53, 54, 55, 56, 57] (fun _ _ _ _ _ _ _ _ _ _ _ _ _ _ _ _ _ _ _ _ _ _ _ _ _ v57 wx => v57 = .bool false ∧ wx = w)
 case first =>
  clear hd HHo
  rcases zjs HB.out with rfl | rfl | rfl | rfl | rfl | rfl | rfl
  all_goals
   go_wp2_with fail
   go_meet
   exact ⟨rfl, rfl⟩
 case rest =>
  obtain ⟨rfl, rfl⟩ := hcut
  rename World => w
  have hhg : base = 4 → ¬ d = 8 := fun e1 e2 => ziu (rowAt E.now.objs a) (by rw [← e1, hd, e2]; rfl)
  have HHd := Lib.hid hhg
  clear hhg he hR hw hb hc hcl hca hst hdo hsm1 hA hsmS hf hput hev g1 g13 hr ho hH hown hset hcell hblk hsm0 hd
  generalize ({ E.now with list := (zb3 E.now a z c d (zau E.now z c d).length).list } : St) = S1 at *
  generalize rowAt E.now.objs a = o at *
  generalize (zau E.now z c d).length = ml at *
  generalize hE1 : E.do1 [1, (a : Int), (z : Int), (c : Int), (d : Int), (ml : Int)] = E1 at *
  have HE1 := Lib.hid hE1
  have HFin := Lib.hid hFin
  clear hE1 hFin
  have hkey : ∀ (W0 : World), Grow w W0 → Mine W0 own w.heap.size (cellsOf o) → ∀ w2, DPost W0 b own E1 w2 → ∃ own1, Gmt w2 b own1 E1 ∧ Kept own w w2 ∧ (∀ k, own1 k → own k ∨ (w.heap.size ≤ k ∧ k < w2.heap.size)) ∧ FPost w b w2 ∧ Mine w2 own1 w.heap.size (cellsOf o) := fun W0 g0 hM w2 hE => by
   obtain ⟨own1, T1⟩ := (TurnG.first (HR0.out.grow g0)).step (Grow.refl _) hE
   exact ⟨own1, T1.em, (g0.kept own).trans T1.kept (fun _ _ h => h), fun k hk => (T1.own k hk).imp id (fun h => ⟨Nat.le_trans g0.size h.1, h.2⟩), FPost.trans (FPost.grow g0) T1.fine g0.size, T1.mine hM⟩
  have HKey := Lib.hid hkey
  clear hkey
  have hzd : ¬ z = d := HZD.out
  clear HZD
  have hzb : ((z : Int) == (d : Int)) = false := by simp; omega
  rw [if_neg hzd] at hlen
  obtain rfl : ml = (E.now.list d).length := by omega
  clear hlen
  by_cases hd8 : d < 8
  · have x1 : (d : Int) < 8 := by omega
    have x2 : ((d : Int) != 8) = true := by simp; omega
    have x3 : ((d : Int) != 9) = true := by simp; omega
    have x4 : ((d : Int) == 8) = false := by simp; omega
    go_wp2_with fail
    refine zaf (by kernel_rfl) (by kernel_rfl) ?_; (repeat (go_big_quiet_step ( (go_at_call 143; first | refine Calls.grow2 (HHo.out _) | refine Calls.grow (HHo.out _)) ))); refine wpQuiet_nil ?_; rintro _ ⟨nx, rfl⟩
    go_wp2_with (first | (go_at_call 144; refine (HI.out _ grI).mono ?_; rintro e' w' ⟨rfl, ni, rfl⟩) | (go_at_call 117; refine (HDo.out _ grI).mono ?_; rintro e' w2 ⟨rfl, hE⟩; obtain ⟨own1, e1, k1, o1, F1, M1⟩ := HKey.out _ grI ⟨(by first | (go_simp; done) | (go_simp; omega) | (simp only [Sl.b]; go_simp; omega)), fun hq => (by have := HL.out _ hq; omega), by go_simp, by go_simp⟩ _ hE; clear hE; have E1' := Lib.hid e1; have K1 := Lib.hid k1; have O1 := Lib.hid o1; have FP1 := Lib.hid F1; have hcq1 := zae M1.free M1.blk; have hql1 := M1.lt; have hbq1 := M1.blk; have M1' := Lib.hid M1; clear e1 k1 o1 F1 M1))
    have hM1 := Lib.hid (show Mine (w2.alloc (.cells (cellsOf restL) 3)) own1 w.heap.size (cellsOf o) from ⟨by simp only [zaa]; omega, M1'.out.own, by rw [zct, if_neg (by omega)]; exact M1'.out.blk, by rw [zc6, if_neg (by omega)]; exact M1'.out.free⟩)
    have hM2 := Lib.hid (show Mine (w2.alloc (.cells (cellsOf restL) 3)) own1 w2.heap.size (cellsOf restL) from ⟨by simp only [zaa]; omega, fun h => by have := E1'.out.lt _ h; omega, by rw [zct, if_pos rfl], by rw [zc6, if_pos rfl]; rfl⟩)
    have hA0 := Lib.hid (show At8 (w2.alloc (.cells (cellsOf restL) 3)) b own1 E S1 a (o.set 3 (d : Int)) (E.evs.length + 1) E1 (w2.alloc (.cells (cellsOf restL) 3)) own1 from ⟨TurnG.first (E1'.out.grow grI), HA.out⟩)
    clear hcq1 hql1 hbq1
    go_loopw [107] (fun i wr => ∃ (k : Nat) (ownk : Nat → Prop), k ≤ 9 ∧ i = .int .i64 k ∧ At8 (w2.alloc (.cells (cellsOf restL) 3)) b own1 E S1 a (zdd (o.set 3 (d : Int)) k) (E.evs.length + 1 + k) (E1.restTo a k) wr ownk) (fun i _ => 9 - (intOf i).toNat)
    case atStart => exact ⟨0, own1, by omega, rfl, hA0.out⟩
    case round =>
     obtain ⟨k, ownk, hk, rfl, hAt⟩ := hrel
     by_cases hlt9 : k < 9
     · obtain ⟨f, hf1, hf2, hf3⟩ := zm0 k hlt9
       have M2k := hAt.turn.mine hM2.out
       have hck : wr.cell? ⟨w2.heap.size, k, none⟩ = some (I (f : Int)) := by rw [zae M2k.free M2k.blk, za6 _ _ (by show k < 9; omega), hf1]
       have hbk := M2k.lt
       have hk9 : (k : Int) < 9 := by omega
       have hsu : (zdd (o.set 3 (d : Int)) k).set f 0 = zdd (o.set 3 (d : Int)) (k + 1) := by rw [zge _ _ hlt9, hf1, Int.toNat_natCast]
       have hse : (E1.restTo a k).setObj a f 0 = E1.restTo a (k + 1) := by rw [zcq _ _ _ hlt9, hf1]
       have HS := Lib.hid (fun wx (g : Grow wr wx) => by have := zf6 hAt HSm.out haS wx g f f rfl 0 hf2 hf3 (by omega) (by omega); rw [hsu, hse] at this; exact this)
       clear M2k hAt hf1 hf2 hf3 hsu hse
       go_wp2_with (go_at_call 61; refine (HS.out _ grI).mono ?_; rintro e' w3 ⟨rfl, own3, A3⟩; have HA3 := Lib.hid A3; clear A3)
       go_roundw
       case rel => exact ⟨k + 1, own3, by omega, by go_num, HA3.out⟩
       case measure => simp [intOf]; omega
     · obtain rfl : k = 9 := by omega
       have HA0 := Lib.hid hAt
       clear hAt hA0 hM2
       have RF := HF.out.set 3 (d : Int) (by omega) (show (0 : Int) ≤ (d : Int) ∧ (d : Int) ≤ 10 by omega)
       have RF : RowFine E.now.objs.length (zdd (o.set 3 (d : Int)) 9) := RF.rest
       have gg1 : 0 ≤ gt o 1 ∧ gt o 1 ≤ 1 := zdn _ _ HF.out.ok 1 (by omega)
       have HRF := Lib.hid RF
       have HG1 := Lib.hid gg1
       clear RF gg1
       have M1 := HA0.out.turn.mine hM1.out
       have hq1 := zae M1.free M1.blk
       have hl1 := M1.lt
       clear M1
       go_wp2_with fail
       refine (zf6 HA0.out HSm.out haS _ grI 2 2 rfl (gt o 1) (by omega) (by omega) (by have := HG1.out; omega) (by omega)).mono ?_
       rintro e' s1 ⟨rfl, own1, A1⟩
       have HA1 := Lib.hid A1
       have RF := HRF.out.set 2 (gt o 1) (by omega) (HG1.out)
       clear HRF A1 hq1 hl1
       have HRF := Lib.hid RF
       clear RF
       have M2 := HA1.out.turn.mine hM1.out
       have hq2 := zae M2.free M2.blk
       have hl2 := M2.lt
       clear M2
       go_wp2_with fail
       refine (zf6 HA1.out HSm.out haS _ grI 16 16 rfl (0) (by omega) (by omega) (by omega) (by omega)).mono ?_
       rintro e' s2 ⟨rfl, own2, A2⟩
       have HA2 := Lib.hid A2
       have RF := HRF.out.set 16 (0) (by omega) (by simp [zaj, gt])
       clear HRF A2 hq2 hl2
       have HRF := Lib.hid RF
       clear RF
       have hz17 := zdn _ _ HRF.out.ok 17 (by omega)
       have HZ17 := Lib.hid (show 0 ≤ gt _ 17 ∧ gt _ 17 ≤ 3 from hz17)
       have hkz := Lib.hid (zgv (d : Int))
       clear hz17
       go_wp2_with (go_at_call 145; refine (zg3 _ hd11 _).mono ?_; rintro e' w' ⟨rfl, hww⟩; subst w')
       refine (zjv HA2.out HSm.out haS _ grI HZ17.out.1 HZ17.out.2 (zav (d : Int)) hkz.out.1 hkz.out.2 (by omega)).mono ?_
       rintro e' s3 ⟨rfl, own3, A3⟩
       have HA3 := Lib.hid A3
       clear A3
       have hfin : E1.put2 a (z : Int) (d : Int) (gt o 1) = (((E1.restTo a 9).setObj a 2 (gt o 1)).setObj a 16 (0)).show a (zav (d : Int)) := by
        rw [zfj]
        have c1 : (d : Int) < 8 := by omega
        have c2 : (d : Int) ≠ 8 := by omega
        have c3 : (d : Int) ≠ 9 := by omega
        have c4 : ¬ ((d : Int) = 8 ∧ (z : Int) ≠ (d : Int)) := by omega
        simp only [if_pos c1, if_pos c2, if_pos c3, if_neg c4]
       have HFIN := Lib.hid hfin
       clear hfin
       obtain ⟨V5, sd5, se5, sp5, hr5, ho5⟩ := HA3.out.turn.em
       obtain ⟨_, _, _, h540⟩ := hr5.cells
       rw [HA3.out.at_.err] at h540
       have hlt5 := hr5.host.lt
       have M3 := HA3.out.turn.mine hM1.out
       have hq3 := zae M3.free M3.blk
       have hl3 := M3.lt
       have h6 := HA3.out.at_.row haS
       have hpn : ((((E1.restTo a 9).setObj a 2 (gt o 1)).setObj a 16 (0)).show a (zav (d : Int))).pend.length ≤ 1000000 := by rw [HA3.out.at_.pend]; omega
       have hcard : 0 ≤ gt (rowAt ((((E1.restTo a 9).setObj a 2 (gt o 1)).setObj a 16 (0)).show a (zav (d : Int))).now.objs a) 0 ∧ gt (rowAt ((((E1.restTo a 9).setObj a 2 (gt o 1)).setObj a 16 (0)).show a (zav (d : Int))).now.objs a) 0 < 120 := by
        rw [h6.2]
        have hk3 := hkz.out
        have hz3 := HZ17.out
        have h3 := zi2 _ _ hz3.1 hz3.2 hk3.1 hk3.2
        have RF := HRF.out.set 17 _ (by omega) h3
        have := zdn _ _ RF.ok 0 (by omega)
        have e1 : gt (zaj E.now.objs.length) (0 * 2) = 0 := rfl
        have e2 : gt (zaj E.now.objs.length) (0 * 2 + 1) = 119 := rfl
        rw [e1, e2] at this
        omega
       have HAw := Lib.hid (fun wx (g : Grow s3 wx) wh ctl => zgt HT.out wx b own3 _ (HA3.out.turn.em.grow g) hpn a h6.1 hcard.1 hcard.2 wh ctl)
       have HPUT : Hid (∀ x y zz v, ((((E1.restTo a 9).setObj a 2 (gt o 1)).setObj a 16 (0)).show a (zav (d : Int))).put3 a x y zz v = (if y = 8 ∧ x ≠ y then ((((E1.restTo a 9).setObj a 2 (gt o 1)).setObj a 16 (0)).show a (zav (d : Int))).await a 2 (gt (rowAt ((((E1.restTo a 9).setObj a 2 (gt o 1)).setObj a 16 (0)).show a (zav (d : Int))).now.objs a) 2) else if x = 8 ∧ zz = 4 then ((((E1.restTo a 9).setObj a 2 (gt o 1)).setObj a 16 (0)).show a (zav (d : Int))).await a 3 v else ((((E1.restTo a 9).setObj a 2 (gt o 1)).setObj a 16 (0)).show a (zav (d : Int))))) := fun x y zz v => by unfold Em.put3; rw [if_neg (by rw [HA3.out.at_.err]; simp), Int.toNat_natCast]
       have hclose : ∀ E9 wz, DPost s3 b own3 E9 wz → DPost w b own E9 wz := fun E9 wz h => by
        obtain ⟨own9, T9⟩ := HA3.out.turn.step (Grow.refl _) h
        exact DPost.then K1.out O1.out FP1.out (DPost.low grI (T9.post (Grow.refl _)))
       have HCl := Lib.hid hclose
       have HEm := Lib.hid (fun wx (g : Grow s3 wx) => DPost.of_grow HA3.out.turn.em g)
       clear hr5 ho5 M3 hpn hcard h6 hclose
       by_cases z8 : z = 8
       · have y2 : ((z : Int) == 8) = true := by simp; omega
         by_cases b4 : base = 4
         · have y3 : (base == 4) = true := by simp [b4]
           have hz8 := Lib.hid z8
           have hb4 := Lib.hid b4
           clear b4 z8
           go_wp2_with fail
           refine (HAw.out _ grI 3 _).mono ?_
           rintro e' s9 ⟨rfl, hE⟩
           have HE := Lib.hid (HCl.out _ _ (DPost.low grI hE))
           clear hE
           go_wp2_with fail
           go_end0
           refine ⟨rfl, ?_⟩
           rw [← HFin.out, hz, HFIN.out, HPUT.out, if_neg (by omega), if_pos ⟨by have := hz8.out; omega, hb4.out⟩]
           exact HE.out
         · have y3 : (base == 4) = false := by simp [b4]
           have hb4 := Lib.hid b4
           clear b4 z8
           go_wp2_with fail
           go_end0
           refine ⟨rfl, ?_⟩
           rw [← HFin.out, hz, HFIN.out, HPUT.out, if_neg (by omega), if_neg (fun h => hb4.out h.2)]
           exact HCl.out _ _ (HEm.out _ grI)
       · have y2 : ((z : Int) == 8) = false := by simp; omega
         have hz8 := Lib.hid z8
         clear z8
         go_wp2_with fail
         go_end0
         refine ⟨rfl, ?_⟩
         rw [← HFin.out, hz, HFIN.out, HPUT.out, if_neg (by omega), if_neg (fun h => hz8.out (by omega))]
         exact HCl.out _ _ (HEm.out _ grI)
  · by_cases hd8 : d = 8
    · have hda : d ≤ 8 := by omega
      have hdb : 8 ≤ d := by omega
      clear hd8
      have x1 : ((d : Int) < 8) = False := by simp; omega
      have x1b : (d < 8) = False := by simp; omega
      have x2 : ((d : Int) != 8) = false := by simp; omega
      have x3 : ((d : Int) != 9) = true := by simp; omega
      have x4 : ((d : Int) == 8) = true := by simp; omega
      go_wp2_with fail
      refine zaf (by kernel_rfl) (by kernel_rfl) ?_; (repeat (go_big_quiet_step ( (go_at_call 143; first | refine Calls.grow2 (HHo.out _) | refine Calls.grow (HHo.out _)) ))); refine wpQuiet_nil ?_; rintro _ ⟨nx, rfl⟩
      go_wp2_with (first | (go_at_call 144; refine (HI.out _ grI).mono ?_; rintro e' w' ⟨rfl, ni, rfl⟩) | (go_at_call 117; refine (HDo.out _ grI).mono ?_; rintro e' w2 ⟨rfl, hE⟩; obtain ⟨own1, e1, k1, o1, F1, M1⟩ := HKey.out _ grI ⟨(by first | (go_simp; done) | (go_simp; omega) | (simp only [Sl.b]; go_simp; omega)), fun hq => (by have := HL.out _ hq; omega), by go_simp, by go_simp⟩ _ hE; clear hE; have E1' := Lib.hid e1; have K1 := Lib.hid k1; have O1 := Lib.hid o1; have FP1 := Lib.hid F1; have hcq1 := zae M1.free M1.blk; have hql1 := M1.lt; have hbq1 := M1.blk; have M1' := Lib.hid M1; clear e1 k1 o1 F1 M1))
      have hM1 := M1'
      have hA0 : At8 w2 b own1 E S1 a (o.set 3 (d : Int)) (E.evs.length + 1) E1 w2 own1 := ⟨TurnG.first E1'.out, HA.out⟩
      have HA0 := Lib.hid hA0
      clear hA0 hcq1 hql1 hbq1
      have RF := HF.out.set 3 (d : Int) (by omega) (show (0 : Int) ≤ (d : Int) ∧ (d : Int) ≤ 10 by omega)
      have gg1 : 0 ≤ gt o 1 ∧ gt o 1 ≤ 1 := zdn _ _ HF.out.ok 1 (by omega)
      have HRF := Lib.hid RF
      have HG1 := Lib.hid gg1
      clear RF gg1
      have M1 := HA0.out.turn.mine hM1.out
      have hq1 := zae M1.free M1.blk
      have hl1 := M1.lt
      clear M1
      go_wp2_with fail
      refine (zf6 HA0.out HSm.out haS _ grI 16 16 rfl (0) (by omega) (by omega) (by omega) (by omega)).mono ?_
      rintro e' s1 ⟨rfl, own1, A1⟩
      have HA1 := Lib.hid A1
      have RF := HRF.out.set 16 (0) (by omega) (by simp [zaj, gt])
      clear HRF A1 hq1 hl1
      have HRF := Lib.hid RF
      clear RF
      have M2 := HA1.out.turn.mine hM1.out
      have hq2 := zae M2.free M2.blk
      have hl2 := M2.lt
      clear M2
      go_wp2_with fail
      refine (zf6 HA1.out HSm.out haS _ grI 5 5 rfl (1) (by omega) (by omega) (by omega) (by omega)).mono ?_
      rintro e' s2 ⟨rfl, own2, A2⟩
      have HA2 := Lib.hid A2
      have RF := HRF.out.set 5 (1) (by omega) (by simp [zaj, gt])
      clear HRF A2 hq2 hl2
      have HRF := Lib.hid RF
      clear RF
      have hz17 := zdn _ _ HRF.out.ok 17 (by omega)
      have HZ17 := Lib.hid (show 0 ≤ gt _ 17 ∧ gt _ 17 ≤ 3 from hz17)
      have hkz := Lib.hid (zgv (d : Int))
      clear hz17
      go_wp2_with (go_at_call 145; refine (zg3 _ hd11 _).mono ?_; rintro e' w' ⟨rfl, hww⟩; subst w')
      refine (zjv HA2.out HSm.out haS _ grI HZ17.out.1 HZ17.out.2 (zav (d : Int)) hkz.out.1 hkz.out.2 (by omega)).mono ?_
      rintro e' s3 ⟨rfl, own3, A3⟩
      have HA3 := Lib.hid A3
      clear A3
      have hfin : E1.put2 a (z : Int) (d : Int) (gt o 1) = (((E1).setObj a 16 (0)).setObj a 5 (1)).show a (zav (d : Int)) := by
       rw [zfj]
       have c1 : ¬ (d : Int) < 8 := by omega
       have c2 : ¬ (d : Int) ≠ 8 := by omega
       have c3 : (d : Int) ≠ 9 := by omega
       have c4 : ((d : Int) = 8 ∧ (z : Int) ≠ (d : Int)) := by omega
       simp only [if_neg c1, if_neg c2, if_pos c3, if_pos c4]
      have HFIN := Lib.hid hfin
      clear hfin
      obtain ⟨V5, sd5, se5, sp5, hr5, ho5⟩ := HA3.out.turn.em
      obtain ⟨_, _, _, h540⟩ := hr5.cells
      rw [HA3.out.at_.err] at h540
      have hlt5 := hr5.host.lt
      have M3 := HA3.out.turn.mine hM1.out
      have hq3 := zae M3.free M3.blk
      have hl3 := M3.lt
      have h6 := HA3.out.at_.row haS
      have hpn : ((((E1).setObj a 16 (0)).setObj a 5 (1)).show a (zav (d : Int))).pend.length ≤ 1000000 := by rw [HA3.out.at_.pend]; omega
      have h5o := hr5.host.rep.objs.cell a 2 h6.1 (by omega)
      have h5n := hr5.host.rep.objs.len
      have h5b := (zaz h5o).1
      have h50 : s3.cell? ⟨b, 0, none⟩ = some V5.objs.val := (zae hr5.host.free hr5.host.blk 0).trans (zmh _ _ _)
      have h5a : (a : Int) < (((((E1).setObj a 16 (0)).setObj a 5 (1)).show a (zav (d : Int))).now.objs.length : Int) := by omega
      have hcard : 0 ≤ gt (rowAt ((((E1).setObj a 16 (0)).setObj a 5 (1)).show a (zav (d : Int))).now.objs a) 0 ∧ gt (rowAt ((((E1).setObj a 16 (0)).setObj a 5 (1)).show a (zav (d : Int))).now.objs a) 0 < 120 := by
       rw [h6.2]
       have hk3 := hkz.out
       have hz3 := HZ17.out
       have h3 := zi2 _ _ hz3.1 hz3.2 hk3.1 hk3.2
       have RF := HRF.out.set 17 _ (by omega) h3
       have := zdn _ _ RF.ok 0 (by omega)
       have e1 : gt (zaj E.now.objs.length) (0 * 2) = 0 := rfl
       have e2 : gt (zaj E.now.objs.length) (0 * 2 + 1) = 119 := rfl
       rw [e1, e2] at this
       omega
      have HAw := Lib.hid (fun wx (g : Grow s3 wx) wh ctl => zgt HT.out wx b own3 _ (HA3.out.turn.em.grow g) hpn a h6.1 hcard.1 hcard.2 wh ctl)
      have HPUT : Hid (∀ x y zz v, ((((E1).setObj a 16 (0)).setObj a 5 (1)).show a (zav (d : Int))).put3 a x y zz v = (if y = 8 ∧ x ≠ y then ((((E1).setObj a 16 (0)).setObj a 5 (1)).show a (zav (d : Int))).await a 2 (gt (rowAt ((((E1).setObj a 16 (0)).setObj a 5 (1)).show a (zav (d : Int))).now.objs a) 2) else if x = 8 ∧ zz = 4 then ((((E1).setObj a 16 (0)).setObj a 5 (1)).show a (zav (d : Int))).await a 3 v else ((((E1).setObj a 16 (0)).setObj a 5 (1)).show a (zav (d : Int))))) := fun x y zz v => by unfold Em.put3; rw [if_neg (by rw [HA3.out.at_.err]; simp), Int.toNat_natCast]
      have hclose : ∀ E9 wz, DPost s3 b own3 E9 wz → DPost w b own E9 wz := fun E9 wz h => by
       obtain ⟨own9, T9⟩ := HA3.out.turn.step (Grow.refl _) h
       exact DPost.then K1.out O1.out FP1.out (DPost.low grI (T9.post (Grow.refl _)))
      have HCl := Lib.hid hclose
      have HEm := Lib.hid (fun wx (g : Grow s3 wx) => DPost.of_grow HA3.out.turn.em g)
      clear hr5 ho5 M3 hpn hcard h6 hclose
      have y1 : ((z : Int) != 8) = true := by simp; omega
      generalize gt (rowAt ((((E1).setObj a 16 (0)).setObj a 5 (1)).show a (zav (d : Int))).now.objs a) 2 = ctl at *
      go_wp2_with fail
      refine (HAw.out _ grI 2 ctl).mono ?_
      rintro e' s9 ⟨rfl, hE⟩
      have HE := Lib.hid (HCl.out _ _ (DPost.low grI hE))
      clear hE
      go_wp2_with fail
      go_end0
      refine ⟨rfl, ?_⟩
      rw [← HFin.out, hz, HFIN.out, HPUT.out, if_pos (by omega)]
      exact HE.out
    · by_cases hd9 : d = 9
      · have hda : d ≤ 9 := by omega
        have hdb : 9 ≤ d := by omega
        clear hd9
        have x1 : ((d : Int) < 8) = False := by simp; omega
        have x1b : (d < 8) = False := by simp; omega
        have x2 : ((d : Int) != 8) = true := by simp; omega
        have x3 : ((d : Int) != 9) = false := by simp; omega
        have x4 : ((d : Int) == 8) = false := by simp; omega
        go_wp2_with fail
        refine zaf (by kernel_rfl) (by kernel_rfl) ?_; (repeat (go_big_quiet_step ( (go_at_call 143; first | refine Calls.grow2 (HHo.out _) | refine Calls.grow (HHo.out _)) ))); refine wpQuiet_nil ?_; rintro _ ⟨nx, rfl⟩
        go_wp2_with (first | (go_at_call 144; refine (HI.out _ grI).mono ?_; rintro e' w' ⟨rfl, ni, rfl⟩) | (go_at_call 117; refine (HDo.out _ grI).mono ?_; rintro e' w2 ⟨rfl, hE⟩; obtain ⟨own1, e1, k1, o1, F1, M1⟩ := HKey.out _ grI ⟨(by first | (go_simp; done) | (go_simp; omega) | (simp only [Sl.b]; go_simp; omega)), fun hq => (by have := HL.out _ hq; omega), by go_simp, by go_simp⟩ _ hE; clear hE; have E1' := Lib.hid e1; have K1 := Lib.hid k1; have O1 := Lib.hid o1; have FP1 := Lib.hid F1; have hcq1 := zae M1.free M1.blk; have hql1 := M1.lt; have hbq1 := M1.blk; have M1' := Lib.hid M1; clear e1 k1 o1 F1 M1))
        have hM1 := Lib.hid (show Mine (w2.alloc (.cells (cellsOf restL) 3)) own1 w.heap.size (cellsOf o) from ⟨by simp only [zaa]; omega, M1'.out.own, by rw [zct, if_neg (by omega)]; exact M1'.out.blk, by rw [zc6, if_neg (by omega)]; exact M1'.out.free⟩)
        have hM2 := Lib.hid (show Mine (w2.alloc (.cells (cellsOf restL) 3)) own1 w2.heap.size (cellsOf restL) from ⟨by simp only [zaa]; omega, fun h => by have := E1'.out.lt _ h; omega, by rw [zct, if_pos rfl], by rw [zc6, if_pos rfl]; rfl⟩)
        have hA0 := Lib.hid (show At8 (w2.alloc (.cells (cellsOf restL) 3)) b own1 E S1 a (o.set 3 (d : Int)) (E.evs.length + 1) E1 (w2.alloc (.cells (cellsOf restL) 3)) own1 from ⟨TurnG.first (E1'.out.grow grI), HA.out⟩)
        clear hcq1 hql1 hbq1
        go_loopw [107] (fun i wr => ∃ (k : Nat) (ownk : Nat → Prop), k ≤ 9 ∧ i = .int .i64 k ∧ At8 (w2.alloc (.cells (cellsOf restL) 3)) b own1 E S1 a (zdd (o.set 3 (d : Int)) k) (E.evs.length + 1 + k) (E1.restTo a k) wr ownk) (fun i _ => 9 - (intOf i).toNat)
        case atStart => exact ⟨0, own1, by omega, rfl, hA0.out⟩
        case round =>
         obtain ⟨k, ownk, hk, rfl, hAt⟩ := hrel
         by_cases hlt9 : k < 9
         · obtain ⟨f, hf1, hf2, hf3⟩ := zm0 k hlt9
           have M2k := hAt.turn.mine hM2.out
           have hck : wr.cell? ⟨w2.heap.size, k, none⟩ = some (I (f : Int)) := by rw [zae M2k.free M2k.blk, za6 _ _ (by show k < 9; omega), hf1]
           have hbk := M2k.lt
           have hk9 : (k : Int) < 9 := by omega
           have hsu : (zdd (o.set 3 (d : Int)) k).set f 0 = zdd (o.set 3 (d : Int)) (k + 1) := by rw [zge _ _ hlt9, hf1, Int.toNat_natCast]
           have hse : (E1.restTo a k).setObj a f 0 = E1.restTo a (k + 1) := by rw [zcq _ _ _ hlt9, hf1]
           have HS := Lib.hid (fun wx (g : Grow wr wx) => by have := zf6 hAt HSm.out haS wx g f f rfl 0 hf2 hf3 (by omega) (by omega); rw [hsu, hse] at this; exact this)
           clear M2k hAt hf1 hf2 hf3 hsu hse
           go_wp2_with (go_at_call 61; refine (HS.out _ grI).mono ?_; rintro e' w3 ⟨rfl, own3, A3⟩; have HA3 := Lib.hid A3; clear A3)
           go_roundw
           case rel => exact ⟨k + 1, own3, by omega, by go_num, HA3.out⟩
           case measure => simp [intOf]; omega
         · obtain rfl : k = 9 := by omega
           have HA0 := Lib.hid hAt
           clear hAt hA0 hM2
           have RF := HF.out.set 3 (d : Int) (by omega) (show (0 : Int) ≤ (d : Int) ∧ (d : Int) ≤ 10 by omega)
           have RF : RowFine E.now.objs.length (zdd (o.set 3 (d : Int)) 9) := RF.rest
           have gg1 : 0 ≤ gt o 1 ∧ gt o 1 ≤ 1 := zdn _ _ HF.out.ok 1 (by omega)
           have HRF := Lib.hid RF
           have HG1 := Lib.hid gg1
           clear RF gg1
           have hz17 := zdn _ _ HRF.out.ok 17 (by omega)
           have HZ17 := Lib.hid (show 0 ≤ gt _ 17 ∧ gt _ 17 ≤ 3 from hz17)
           have hkz := Lib.hid (zgv (d : Int))
           clear hz17
           go_wp2_with (go_at_call 145; refine (zg3 _ hd11 _).mono ?_; rintro e' w' ⟨rfl, hww⟩; subst w')
           refine (zjv HA0.out HSm.out haS _ grI HZ17.out.1 HZ17.out.2 (zav (d : Int)) hkz.out.1 hkz.out.2 (by omega)).mono ?_
           rintro e' s1 ⟨rfl, own1, A1⟩
           have HA1 := Lib.hid A1
           clear A1
           have hfin : E1.put2 a (z : Int) (d : Int) (gt o 1) = (E1.restTo a 9).show a (zav (d : Int)) := by
            rw [zfj]
            have c1 : ¬ (d : Int) < 8 := by omega
            have c2 : (d : Int) ≠ 8 := by omega
            have c3 : ¬ (d : Int) ≠ 9 := by omega
            have c4 : ¬ ((d : Int) = 8 ∧ (z : Int) ≠ (d : Int)) := by omega
            simp only [if_neg c1, if_pos c2, if_neg c3, if_neg c4]
           have HFIN := Lib.hid hfin
           clear hfin
           obtain ⟨V5, sd5, se5, sp5, hr5, ho5⟩ := HA1.out.turn.em
           obtain ⟨_, _, _, h540⟩ := hr5.cells
           rw [HA1.out.at_.err] at h540
           have hlt5 := hr5.host.lt
           have M1 := HA1.out.turn.mine hM1.out
           have hq1 := zae M1.free M1.blk
           have hl1 := M1.lt
           have h6 := HA1.out.at_.row haS
           have hpn : ((E1.restTo a 9).show a (zav (d : Int))).pend.length ≤ 1000000 := by rw [HA1.out.at_.pend]; omega
           have hcard : 0 ≤ gt (rowAt ((E1.restTo a 9).show a (zav (d : Int))).now.objs a) 0 ∧ gt (rowAt ((E1.restTo a 9).show a (zav (d : Int))).now.objs a) 0 < 120 := by
            rw [h6.2]
            have hk3 := hkz.out
            have hz3 := HZ17.out
            have h3 := zi2 _ _ hz3.1 hz3.2 hk3.1 hk3.2
            have RF := HRF.out.set 17 _ (by omega) h3
            have := zdn _ _ RF.ok 0 (by omega)
            have e1 : gt (zaj E.now.objs.length) (0 * 2) = 0 := rfl
            have e2 : gt (zaj E.now.objs.length) (0 * 2 + 1) = 119 := rfl
            rw [e1, e2] at this
            omega
           have HAw := Lib.hid (fun wx (g : Grow s1 wx) wh ctl => zgt HT.out wx b own1 _ (HA1.out.turn.em.grow g) hpn a h6.1 hcard.1 hcard.2 wh ctl)
           have HPUT : Hid (∀ x y zz v, ((E1.restTo a 9).show a (zav (d : Int))).put3 a x y zz v = (if y = 8 ∧ x ≠ y then ((E1.restTo a 9).show a (zav (d : Int))).await a 2 (gt (rowAt ((E1.restTo a 9).show a (zav (d : Int))).now.objs a) 2) else if x = 8 ∧ zz = 4 then ((E1.restTo a 9).show a (zav (d : Int))).await a 3 v else ((E1.restTo a 9).show a (zav (d : Int))))) := fun x y zz v => by unfold Em.put3; rw [if_neg (by rw [HA1.out.at_.err]; simp), Int.toNat_natCast]
           have hclose : ∀ E9 wz, DPost s1 b own1 E9 wz → DPost w b own E9 wz := fun E9 wz h => by
            obtain ⟨own9, T9⟩ := HA1.out.turn.step (Grow.refl _) h
            exact DPost.then K1.out O1.out FP1.out (DPost.low grI (T9.post (Grow.refl _)))
           have HCl := Lib.hid hclose
           have HEm := Lib.hid (fun wx (g : Grow s1 wx) => DPost.of_grow HA1.out.turn.em g)
           clear hr5 ho5 M1 hpn hcard h6 hclose
           by_cases z8 : z = 8
           · have y2 : ((z : Int) == 8) = true := by simp; omega
             by_cases b4 : base = 4
             · have y3 : (base == 4) = true := by simp [b4]
               have hz8 := Lib.hid z8
               have hb4 := Lib.hid b4
               clear b4 z8
               go_wp2_with fail
               refine (HAw.out _ grI 3 _).mono ?_
               rintro e' s9 ⟨rfl, hE⟩
               have HE := Lib.hid (HCl.out _ _ (DPost.low grI hE))
               clear hE
               go_wp2_with fail
               go_end0
               refine ⟨rfl, ?_⟩
               rw [← HFin.out, hz, HFIN.out, HPUT.out, if_neg (by omega), if_pos ⟨by have := hz8.out; omega, hb4.out⟩]
               exact HE.out
             · have y3 : (base == 4) = false := by simp [b4]
               have hb4 := Lib.hid b4
               clear b4 z8
               go_wp2_with fail
               go_end0
               refine ⟨rfl, ?_⟩
               rw [← HFin.out, hz, HFIN.out, HPUT.out, if_neg (by omega), if_neg (fun h => hb4.out h.2)]
               exact HCl.out _ _ (HEm.out _ grI)
           · have y2 : ((z : Int) == 8) = false := by simp; omega
             have hz8 := Lib.hid z8
             clear z8
             go_wp2_with fail
             go_end0
             refine ⟨rfl, ?_⟩
             rw [← HFin.out, hz, HFIN.out, HPUT.out, if_neg (by omega), if_neg (fun h => hz8.out (by omega))]
             exact HCl.out _ _ (HEm.out _ grI)
      · have hd10 : d = 10 := by omega
        have hda : d ≤ 10 := by omega
        have hdb : 10 ≤ d := by omega
        clear hd10
        have x1 : ((d : Int) < 8) = False := by simp; omega
        have x1b : (d < 8) = False := by simp; omega
        have x2 : ((d : Int) != 8) = true := by simp; omega
        have x3 : ((d : Int) != 9) = true := by simp; omega
        have x4 : ((d : Int) == 8) = false := by simp; omega
        go_wp2_with fail
        refine zaf (by kernel_rfl) (by kernel_rfl) ?_; (repeat (go_big_quiet_step ( (go_at_call 143; first | refine Calls.grow2 (HHo.out _) | refine Calls.grow (HHo.out _)) ))); refine wpQuiet_nil ?_; rintro _ ⟨nx, rfl⟩
        go_wp2_with (first | (go_at_call 144; refine (HI.out _ grI).mono ?_; rintro e' w' ⟨rfl, ni, rfl⟩) | (go_at_call 117; refine (HDo.out _ grI).mono ?_; rintro e' w2 ⟨rfl, hE⟩; obtain ⟨own1, e1, k1, o1, F1, M1⟩ := HKey.out _ grI ⟨(by first | (go_simp; done) | (go_simp; omega) | (simp only [Sl.b]; go_simp; omega)), fun hq => (by have := HL.out _ hq; omega), by go_simp, by go_simp⟩ _ hE; clear hE; have E1' := Lib.hid e1; have K1 := Lib.hid k1; have O1 := Lib.hid o1; have FP1 := Lib.hid F1; have hcq1 := zae M1.free M1.blk; have hql1 := M1.lt; have hbq1 := M1.blk; have M1' := Lib.hid M1; clear e1 k1 o1 F1 M1))
        have hM1 := Lib.hid (show Mine (w2.alloc (.cells (cellsOf restL) 3)) own1 w.heap.size (cellsOf o) from ⟨by simp only [zaa]; omega, M1'.out.own, by rw [zct, if_neg (by omega)]; exact M1'.out.blk, by rw [zc6, if_neg (by omega)]; exact M1'.out.free⟩)
        have hM2 := Lib.hid (show Mine (w2.alloc (.cells (cellsOf restL) 3)) own1 w2.heap.size (cellsOf restL) from ⟨by simp only [zaa]; omega, fun h => by have := E1'.out.lt _ h; omega, by rw [zct, if_pos rfl], by rw [zc6, if_pos rfl]; rfl⟩)
        have hA0 := Lib.hid (show At8 (w2.alloc (.cells (cellsOf restL) 3)) b own1 E S1 a (o.set 3 (d : Int)) (E.evs.length + 1) E1 (w2.alloc (.cells (cellsOf restL) 3)) own1 from ⟨TurnG.first (E1'.out.grow grI), HA.out⟩)
        clear hcq1 hql1 hbq1
        go_loopw [107] (fun i wr => ∃ (k : Nat) (ownk : Nat → Prop), k ≤ 9 ∧ i = .int .i64 k ∧ At8 (w2.alloc (.cells (cellsOf restL) 3)) b own1 E S1 a (zdd (o.set 3 (d : Int)) k) (E.evs.length + 1 + k) (E1.restTo a k) wr ownk) (fun i _ => 9 - (intOf i).toNat)
        case atStart => exact ⟨0, own1, by omega, rfl, hA0.out⟩
        case round =>
         obtain ⟨k, ownk, hk, rfl, hAt⟩ := hrel
         by_cases hlt9 : k < 9
         · obtain ⟨f, hf1, hf2, hf3⟩ := zm0 k hlt9
           have M2k := hAt.turn.mine hM2.out
           have hck : wr.cell? ⟨w2.heap.size, k, none⟩ = some (I (f : Int)) := by rw [zae M2k.free M2k.blk, za6 _ _ (by show k < 9; omega), hf1]
           have hbk := M2k.lt
           have hk9 : (k : Int) < 9 := by omega
           have hsu : (zdd (o.set 3 (d : Int)) k).set f 0 = zdd (o.set 3 (d : Int)) (k + 1) := by rw [zge _ _ hlt9, hf1, Int.toNat_natCast]
           have hse : (E1.restTo a k).setObj a f 0 = E1.restTo a (k + 1) := by rw [zcq _ _ _ hlt9, hf1]
           have HS := Lib.hid (fun wx (g : Grow wr wx) => by have := zf6 hAt HSm.out haS wx g f f rfl 0 hf2 hf3 (by omega) (by omega); rw [hsu, hse] at this; exact this)
           clear M2k hAt hf1 hf2 hf3 hsu hse
           go_wp2_with (go_at_call 61; refine (HS.out _ grI).mono ?_; rintro e' w3 ⟨rfl, own3, A3⟩; have HA3 := Lib.hid A3; clear A3)
           go_roundw
           case rel => exact ⟨k + 1, own3, by omega, by go_num, HA3.out⟩
           case measure => simp [intOf]; omega
         · obtain rfl : k = 9 := by omega
           have HA0 := Lib.hid hAt
           clear hAt hA0 hM2
           have RF := HF.out.set 3 (d : Int) (by omega) (show (0 : Int) ≤ (d : Int) ∧ (d : Int) ≤ 10 by omega)
           have RF : RowFine E.now.objs.length (zdd (o.set 3 (d : Int)) 9) := RF.rest
           have gg1 : 0 ≤ gt o 1 ∧ gt o 1 ≤ 1 := zdn _ _ HF.out.ok 1 (by omega)
           have HRF := Lib.hid RF
           have HG1 := Lib.hid gg1
           clear RF gg1
           have M1 := HA0.out.turn.mine hM1.out
           have hq1 := zae M1.free M1.blk
           have hl1 := M1.lt
           clear M1
           go_wp2_with fail
           refine (zf6 HA0.out HSm.out haS _ grI 16 16 rfl (0) (by omega) (by omega) (by omega) (by omega)).mono ?_
           rintro e' s1 ⟨rfl, own1, A1⟩
           have HA1 := Lib.hid A1
           have RF := HRF.out.set 16 (0) (by omega) (by simp [zaj, gt])
           clear HRF A1 hq1 hl1
           have HRF := Lib.hid RF
           clear RF
           have hz17 := zdn _ _ HRF.out.ok 17 (by omega)
           have HZ17 := Lib.hid (show 0 ≤ gt _ 17 ∧ gt _ 17 ≤ 3 from hz17)
           have hkz := Lib.hid (zgv (d : Int))
           clear hz17
           go_wp2_with (go_at_call 145; refine (zg3 _ hd11 _).mono ?_; rintro e' w' ⟨rfl, hww⟩; subst w')
           refine (zjv HA1.out HSm.out haS _ grI HZ17.out.1 HZ17.out.2 (zav (d : Int)) hkz.out.1 hkz.out.2 (by omega)).mono ?_
           rintro e' s2 ⟨rfl, own2, A2⟩
           have HA2 := Lib.hid A2
           clear A2
           have hfin : E1.put2 a (z : Int) (d : Int) (gt o 1) = ((E1.restTo a 9).setObj a 16 (0)).show a (zav (d : Int)) := by
            rw [zfj]
            have c1 : ¬ (d : Int) < 8 := by omega
            have c2 : (d : Int) ≠ 8 := by omega
            have c3 : (d : Int) ≠ 9 := by omega
            have c4 : ¬ ((d : Int) = 8 ∧ (z : Int) ≠ (d : Int)) := by omega
            simp only [if_neg c1, if_pos c2, if_pos c3, if_neg c4]
           have HFIN := Lib.hid hfin
           clear hfin
           obtain ⟨V5, sd5, se5, sp5, hr5, ho5⟩ := HA2.out.turn.em
           obtain ⟨_, _, _, h540⟩ := hr5.cells
           rw [HA2.out.at_.err] at h540
           have hlt5 := hr5.host.lt
           have M2 := HA2.out.turn.mine hM1.out
           have hq2 := zae M2.free M2.blk
           have hl2 := M2.lt
           have h6 := HA2.out.at_.row haS
           have hpn : (((E1.restTo a 9).setObj a 16 (0)).show a (zav (d : Int))).pend.length ≤ 1000000 := by rw [HA2.out.at_.pend]; omega
           have hcard : 0 ≤ gt (rowAt (((E1.restTo a 9).setObj a 16 (0)).show a (zav (d : Int))).now.objs a) 0 ∧ gt (rowAt (((E1.restTo a 9).setObj a 16 (0)).show a (zav (d : Int))).now.objs a) 0 < 120 := by
            rw [h6.2]
            have hk3 := hkz.out
            have hz3 := HZ17.out
            have h3 := zi2 _ _ hz3.1 hz3.2 hk3.1 hk3.2
            have RF := HRF.out.set 17 _ (by omega) h3
            have := zdn _ _ RF.ok 0 (by omega)
            have e1 : gt (zaj E.now.objs.length) (0 * 2) = 0 := rfl
            have e2 : gt (zaj E.now.objs.length) (0 * 2 + 1) = 119 := rfl
            rw [e1, e2] at this
            omega
           have HAw := Lib.hid (fun wx (g : Grow s2 wx) wh ctl => zgt HT.out wx b own2 _ (HA2.out.turn.em.grow g) hpn a h6.1 hcard.1 hcard.2 wh ctl)
           have HPUT : Hid (∀ x y zz v, (((E1.restTo a 9).setObj a 16 (0)).show a (zav (d : Int))).put3 a x y zz v = (if y = 8 ∧ x ≠ y then (((E1.restTo a 9).setObj a 16 (0)).show a (zav (d : Int))).await a 2 (gt (rowAt (((E1.restTo a 9).setObj a 16 (0)).show a (zav (d : Int))).now.objs a) 2) else if x = 8 ∧ zz = 4 then (((E1.restTo a 9).setObj a 16 (0)).show a (zav (d : Int))).await a 3 v else (((E1.restTo a 9).setObj a 16 (0)).show a (zav (d : Int))))) := fun x y zz v => by unfold Em.put3; rw [if_neg (by rw [HA2.out.at_.err]; simp), Int.toNat_natCast]
           have hclose : ∀ E9 wz, DPost s2 b own2 E9 wz → DPost w b own E9 wz := fun E9 wz h => by
            obtain ⟨own9, T9⟩ := HA2.out.turn.step (Grow.refl _) h
            exact DPost.then K1.out O1.out FP1.out (DPost.low grI (T9.post (Grow.refl _)))
           have HCl := Lib.hid hclose
           have HEm := Lib.hid (fun wx (g : Grow s2 wx) => DPost.of_grow HA2.out.turn.em g)
           clear hr5 ho5 M2 hpn hcard h6 hclose
           by_cases z8 : z = 8
           · have y2 : ((z : Int) == 8) = true := by simp; omega
             by_cases b4 : base = 4
             · have y3 : (base == 4) = true := by simp [b4]
               have hz8 := Lib.hid z8
               have hb4 := Lib.hid b4
               clear b4 z8
               go_wp2_with fail
               refine (HAw.out _ grI 3 _).mono ?_
               rintro e' s9 ⟨rfl, hE⟩
               have HE := Lib.hid (HCl.out _ _ (DPost.low grI hE))
               clear hE
               go_wp2_with fail
               go_end0
               refine ⟨rfl, ?_⟩
               rw [← HFin.out, hz, HFIN.out, HPUT.out, if_neg (by omega), if_pos ⟨by have := hz8.out; omega, hb4.out⟩]
               exact HE.out
             · have y3 : (base == 4) = false := by simp [b4]
               have hb4 := Lib.hid b4
               clear b4 z8
               go_wp2_with fail
               go_end0
               refine ⟨rfl, ?_⟩
               rw [← HFin.out, hz, HFIN.out, HPUT.out, if_neg (by omega), if_neg (fun h => hb4.out h.2)]
               exact HCl.out _ _ (HEm.out _ grI)
           · have y2 : ((z : Int) == 8) = false := by simp; omega
             have hz8 := Lib.hid z8
             clear z8
             go_wp2_with fail
             go_end0
             refine ⟨rfl, ?_⟩
             rw [← HFin.out, hz, HFIN.out, HPUT.out, if_neg (by omega), if_neg (fun h => hz8.out (by omega))]
             exact HCl.out _ _ (HEm.out _ grI)
end Go.Proofs.YtgobdndjemicjaaGreatDoor
