/- The walk of effect's check: what is within. -/
import Derived.Test.YthfalocligkamaaGreatDoorMEf3
namespace Go.Proofs.YthfalocligkamaaGreatDoor
open Go Go.RowKit Go.Shelf
theorem z54 (l : List Eff) (all : Bool) (tg d : Int) (k : Nat) (hk : k < l.length) : zds (l.drop k) all tg d = if (l[k]).chk tg d ≠ 0 then (l[k]).chk tg d else if (all && (l[k]).who != 2) = true then 11 else zds (l.drop (k + 1)) all tg d := by
 rw [List.drop_eq_getElem_cons hk, zfr]
set_option maxRecDepth 100000 in
set_option maxHeartbeats 64000000 in
theorem zzx (op n m who : Int) (a : Option Addr) (c : Nat) (l : List Eff) (IH : ∀ e, e ∈ l → zzh e) (w : World) (lim : Nat → Prop) (hI : Eff.In w lim (.mk op n m who a c l)) (tg d : Int) (h : 0 ≤ op ∧ op < 26) (h20 : op ≠ 20) (hd : d ≤ 8) (hd0 : 0 ≤ d) (ht : 0 ≤ tg ∧ tg ≤ 5) (hb : zk8 op n m who = true) (ha : zmq op who tg = true ∨ (asks op).wh.contains who = true) (hl : (asks op).lo ≤ l.length) (hm : l.length ≤ (asks op).hi) (h8 : l.length ≤ 8) :
 Calls Tryz.prog 47 #[.agg (exR op n m who a l.length c), .int .i64 tg, .int .i64 d] w fun r w' => r = .returned (errV (zds l false tg (d + 1))) ∧ Grow w w' := by
 have HIH : Hid (∀ (k : Nat) (hk : k < l.length) (W : World), Grow w W → Calls Tryz.prog 47 #[.agg (l[k]).row, .int .i64 tg, .int .i64 (d + 1)] W fun r w' => r = .returned (errV ((l[k]).chk tg (d + 1))) ∧ Grow W w') := fun k hk W g => IH _ (List.getElem_mem hk) W lim ((hI.sub (List.getElem_mem hk)).grow g) tg (d + 1) ht (by omega)
 have HSc := Lib.hid (fun k hk => z54 l false tg (d + 1) k hk)
 have HD0 : Hid (zds l false tg (d + 1) = zds (l.drop 0) false tg (d + 1)) := rfl
 have HDE : Hid (zds (l.drop l.length) false tg (d + 1) = 0) := by rw [Hid, List.drop_length]; rfl
 have HIn := Lib.hid hI
 have b20 : (op == 20) = false := by simpa using h20
 have hdb : d ≤ 8 := hd
 have hl1 : ¬ l.length < (asks op).lo := by omega
 have hm1 : ¬ (asks op).hi < l.length := by omega
 clear hl hm
 generalize hR : zds l false tg (d + 1) = Rz at *
 clear hR IH hI h20
 have b0 : decide (op < 0) = false := by simp; omega
 have b1 : decide (26 ≤ op) = false := by simp; omega
 have b2 : decide (8 < d) = false := by simpa using hd
 have HO := Lib.hid (fun W => zhl W op)
 have HT := Lib.hid (fun W => zc1 W (tgN op) tg (by omega) (zoc op))
 have HW := Lib.hid (fun W => zc1 W (whN op) who (zdv hb) (zog op))
 rw [zj4 op who (by have := zdv hb; omega)] at HW
 rw [zmm op tg ht] at HT
 have HNB : Hid (∀ W, Calls Tryz.prog 68 #[.agg (exR op n m who a l.length c), .agg (shR (asks op).sg (asks op).n (asks op).m (whN op) (tgN op) (asks op).lo (asks op).hi)] W fun e w' => e = .returned (.bool true) ∧ Grow W w') := fun W => by
  have := zcv W op n m who a l.length c (asks op).sg (asks op).n (asks op).m (whN op) (tgN op) (asks op).lo (asks op).hi (by unfold asks; simp only; (repeat' split) <;> decide) (by unfold asks; simp only; (repeat' split) <;> decide)
  have e : zk8 op n m who = (inW n (asks op).n (asks op).sg && inW m (asks op).m (asks op).sg && inW who 4 false && (if op = 23 ∨ op = 25 then decide (n ≤ 255) else if op = 14 then decide (112 ≤ m ∧ m ≤ 119) else true)) := rfl
  rw [← e, hb] at this
  exact this
 have hg := zir op
 by_cases hw2 : who = 2
 · cases hT : (asks op).tg.contains tg
   · have hw : (asks op).wh.contains who = true := by
      rcases ha with ha | ha
      · unfold zmq at ha; rw [hw2, hT] at ha; cases ha
      · exact ha
     rw [hw] at HW
     rw [hT] at HT
     have b3 : (who == 2) = true := by rw [hw2]; rfl
     clear hw2
     clear hb hd ht h ha hT hw
     generalize (asks op).n = N at *
     generalize (asks op).m = M at *
     generalize (asks op).sg = sg at *
     generalize (asks op).lo = lo at *
     generalize (asks op).hi = hi at *
     generalize whN op = wh at *
     generalize tgN op = tgs at *
     generalize ofN op = N0 at *
     generalize ofM op = M0 at *
     have hg2 : ((op == 14) = true ∧ (op == 23) = false ∧ (op == 25) = false ∧ N = N0 ∧ M = 119) ∨ ((op == 14) = false ∧ (op == 23) = true ∧ (op == 25) = false ∧ N = 255 ∧ M = M0) ∨ ((op == 14) = false ∧ (op == 23) = false ∧ (op == 25) = true ∧ N = 255 ∧ M = M0) ∨ ((op == 14) = false ∧ (op == 23) = false ∧ (op == 25) = false ∧ N = N0 ∧ M = M0) := by
      rcases hg with ⟨h1, h2, h3⟩ | ⟨h1, h2, h3⟩ | ⟨h1, h2, h3⟩ | h1
      · exact Or.inl ⟨by rw [h1]; rfl, by rw [h1]; rfl, by rw [h1]; rfl, h2, h3⟩
      · exact Or.inr (Or.inl ⟨by rw [h1]; rfl, by rw [h1]; rfl, by rw [h1]; rfl, h2, h3⟩)
      · exact Or.inr (Or.inr (Or.inl ⟨by rw [h1]; rfl, by rw [h1]; rfl, by rw [h1]; rfl, h2, h3⟩))
      · exact Or.inr (Or.inr (Or.inr h1))
     clear hg
     rcases hg2 with ⟨c1, c2, c3, rfl, rfl⟩ | ⟨c1, c2, c3, rfl, rfl⟩ | ⟨c1, c2, c3, rfl, rfl⟩ | ⟨c1, c2, c3, rfl, rfl⟩
     all_goals
      go_enter Tryz.func47, Tryz.ntmps47
      go_wp2_with (go_at_call 66; refine (HO.out _).mono ?_; rintro e' w' ⟨rfl, nx, rfl⟩)
      refine (HT.out _).mono ?_
      rintro e' w' ⟨rfl, nt, rfl⟩
      go_wp2_with (go_at_call 68; refine (HNB.out _).mono ?_; rintro e' w' ⟨rfl, nx, rfl⟩)
      refine (HW.out _).mono ?_
      rintro e' w' ⟨rfl, nw, rfl⟩
      go_wp2_with fail
      clear hl1 hm1
      go_loopw [97] (fun i wr => ∃ k : Nat, k ≤ l.length ∧ i = .int .i64 k ∧ Hid (Rz = zds (l.drop k) false tg (d + 1)) ∧ Hid (Boxd wr w.heap.size (exR op n m who a l.length c)) ∧ Grow w wr) (fun i _ => l.length - (intOf i).toNat)
      case atStart => exact ⟨0, by omega, rfl, HD0.out, (Boxd.new w _ 32).grow grI, grI⟩
      case round =>
       obtain ⟨k, hk, rfl, HRz, HB, hG⟩ := hrel
       have HG := Lib.hid hG
       obtain ⟨x1, x2, x3⟩ := HB.out
       have hIr := HIn.out.grow hG
       clear hG
       by_cases hlt : k < l.length
       · obtain ⟨bs, os, rfl, hbs⟩ := hIr.at'.addr (by omega)
         obtain ⟨y1, y2, y3, y4⟩ := hIr.at'.get k hlt
         have hP := HIH.out k hlt
         have hs := HSc.out k hlt
         rw [Eff.row_is] at hP y3
         have HP := Lib.hid (fun W (g : Grow wr W) => hP W (HG.out.trans g))
         clear hIr
         have hk8 : k ≤ 8 := by omega
         clear hP
         generalize l[k].subs.length = k1 at *
         by_cases hz : (l[k]).chk tg (d + 1) = 0
         · rw [if_neg (by rw [hz]; simp), Bool.false_and, if_neg (by decide)] at hs
           rw [hz, zat] at HP
           have HRz2 : Hid (Rz = zds (l.drop (k + 1)) false tg (d + 1)) := by rw [Hid, HRz.out, hs]
           clear hs hz
           go_wp2_with (go_at_call 47; refine (HP.out _ grI).mono ?_; rintro e' w' ⟨rfl, nx, rfl⟩)
           clear x1 x2 y1 y2 y3
           go_roundw
           case rel => exact ⟨k + 1, by omega, by go_num, HRz2, HB.out.grow grI, HG.out.trans grI⟩
           case measure => simp [intOf]; omega
         · rw [if_pos hz] at hs
           have hev := zao hz
           have HE : Hid (errV Rz = .iface 66 (.int .i64 ((l[k]).chk tg (d + 1)))) := by rw [Hid, HRz.out, hs, hev]
           rw [hev] at HP
           clear hs hz hev
           go_wp2_with (go_at_call 47; refine (HP.out _ grI).mono ?_; rintro e' w' ⟨rfl, nx, rfl⟩)
           go_ret
           exact ⟨by rw [HE.out]; rfl, HG.out.trans grI⟩
       · have hke : k = l.length := by omega
         subst hke
         have HE : Hid (errV Rz = .nilIface) := by rw [Hid, HRz.out, HDE.out]; rfl
         go_wp2_with fail
         go_ret
         exact ⟨by rw [HE.out]; rfl, HG.out.trans grI⟩
   · rw [hT] at HT
     have b3 : (who == 2) = true := by rw [hw2]; rfl
     clear hw2
     clear hb hd ht h ha hT HW
     generalize (asks op).n = N at *
     generalize (asks op).m = M at *
     generalize (asks op).sg = sg at *
     generalize (asks op).lo = lo at *
     generalize (asks op).hi = hi at *
     generalize whN op = wh at *
     generalize tgN op = tgs at *
     generalize ofN op = N0 at *
     generalize ofM op = M0 at *
     have hg2 : ((op == 14) = true ∧ (op == 23) = false ∧ (op == 25) = false ∧ N = N0 ∧ M = 119) ∨ ((op == 14) = false ∧ (op == 23) = true ∧ (op == 25) = false ∧ N = 255 ∧ M = M0) ∨ ((op == 14) = false ∧ (op == 23) = false ∧ (op == 25) = true ∧ N = 255 ∧ M = M0) ∨ ((op == 14) = false ∧ (op == 23) = false ∧ (op == 25) = false ∧ N = N0 ∧ M = M0) := by
      rcases hg with ⟨h1, h2, h3⟩ | ⟨h1, h2, h3⟩ | ⟨h1, h2, h3⟩ | h1
      · exact Or.inl ⟨by rw [h1]; rfl, by rw [h1]; rfl, by rw [h1]; rfl, h2, h3⟩
      · exact Or.inr (Or.inl ⟨by rw [h1]; rfl, by rw [h1]; rfl, by rw [h1]; rfl, h2, h3⟩)
      · exact Or.inr (Or.inr (Or.inl ⟨by rw [h1]; rfl, by rw [h1]; rfl, by rw [h1]; rfl, h2, h3⟩))
      · exact Or.inr (Or.inr (Or.inr h1))
     clear hg
     rcases hg2 with ⟨c1, c2, c3, rfl, rfl⟩ | ⟨c1, c2, c3, rfl, rfl⟩ | ⟨c1, c2, c3, rfl, rfl⟩ | ⟨c1, c2, c3, rfl, rfl⟩
     all_goals
      go_enter Tryz.func47, Tryz.ntmps47
      go_wp2_with (go_at_call 66; refine (HO.out _).mono ?_; rintro e' w' ⟨rfl, nx, rfl⟩)
      refine (HT.out _).mono ?_
      rintro e' w' ⟨rfl, nt, rfl⟩
      go_wp2_with (go_at_call 68; refine (HNB.out _).mono ?_; rintro e' w' ⟨rfl, nx, rfl⟩)
      clear hl1 hm1
      go_loopw [97] (fun i wr => ∃ k : Nat, k ≤ l.length ∧ i = .int .i64 k ∧ Hid (Rz = zds (l.drop k) false tg (d + 1)) ∧ Hid (Boxd wr w.heap.size (exR op n m who a l.length c)) ∧ Grow w wr) (fun i _ => l.length - (intOf i).toNat)
      case atStart => exact ⟨0, by omega, rfl, HD0.out, (Boxd.new w _ 32).grow grI, grI⟩
      case round =>
       obtain ⟨k, hk, rfl, HRz, HB, hG⟩ := hrel
       have HG := Lib.hid hG
       obtain ⟨x1, x2, x3⟩ := HB.out
       have hIr := HIn.out.grow hG
       clear hG
       by_cases hlt : k < l.length
       · obtain ⟨bs, os, rfl, hbs⟩ := hIr.at'.addr (by omega)
         obtain ⟨y1, y2, y3, y4⟩ := hIr.at'.get k hlt
         have hP := HIH.out k hlt
         have hs := HSc.out k hlt
         rw [Eff.row_is] at hP y3
         have HP := Lib.hid (fun W (g : Grow wr W) => hP W (HG.out.trans g))
         clear hIr
         have hk8 : k ≤ 8 := by omega
         clear hP
         generalize l[k].subs.length = k1 at *
         by_cases hz : (l[k]).chk tg (d + 1) = 0
         · rw [if_neg (by rw [hz]; simp), Bool.false_and, if_neg (by decide)] at hs
           rw [hz, zat] at HP
           have HRz2 : Hid (Rz = zds (l.drop (k + 1)) false tg (d + 1)) := by rw [Hid, HRz.out, hs]
           clear hs hz
           go_wp2_with (go_at_call 47; refine (HP.out _ grI).mono ?_; rintro e' w' ⟨rfl, nx, rfl⟩)
           clear x1 x2 y1 y2 y3
           go_roundw
           case rel => exact ⟨k + 1, by omega, by go_num, HRz2, HB.out.grow grI, HG.out.trans grI⟩
           case measure => simp [intOf]; omega
         · rw [if_pos hz] at hs
           have hev := zao hz
           have HE : Hid (errV Rz = .iface 66 (.int .i64 ((l[k]).chk tg (d + 1)))) := by rw [Hid, HRz.out, hs, hev]
           rw [hev] at HP
           clear hs hz hev
           go_wp2_with (go_at_call 47; refine (HP.out _ grI).mono ?_; rintro e' w' ⟨rfl, nx, rfl⟩)
           go_ret
           exact ⟨by rw [HE.out]; rfl, HG.out.trans grI⟩
       · have hke : k = l.length := by omega
         subst hke
         have HE : Hid (errV Rz = .nilIface) := by rw [Hid, HRz.out, HDE.out]; rfl
         go_wp2_with fail
         go_ret
         exact ⟨by rw [HE.out]; rfl, HG.out.trans grI⟩
 · have hw : (asks op).wh.contains who = true := by
    rcases ha with ha | ha
    · unfold zmq at ha
      rw [show (who == 2) = false by simpa using hw2] at ha
      cases ha
    · exact ha
   rw [hw] at HW
   have b3 : (who == 2) = false := by simpa using hw2
   clear hb hd ht h ha hw2 hw HT
   generalize (asks op).n = N at *
   generalize (asks op).m = M at *
   generalize (asks op).sg = sg at *
   generalize (asks op).lo = lo at *
   generalize (asks op).hi = hi at *
   generalize whN op = wh at *
   generalize tgN op = tgs at *
   generalize ofN op = N0 at *
   generalize ofM op = M0 at *
   have hg2 : ((op == 14) = true ∧ (op == 23) = false ∧ (op == 25) = false ∧ N = N0 ∧ M = 119) ∨ ((op == 14) = false ∧ (op == 23) = true ∧ (op == 25) = false ∧ N = 255 ∧ M = M0) ∨ ((op == 14) = false ∧ (op == 23) = false ∧ (op == 25) = true ∧ N = 255 ∧ M = M0) ∨ ((op == 14) = false ∧ (op == 23) = false ∧ (op == 25) = false ∧ N = N0 ∧ M = M0) := by
    rcases hg with ⟨h1, h2, h3⟩ | ⟨h1, h2, h3⟩ | ⟨h1, h2, h3⟩ | h1
    · exact Or.inl ⟨by rw [h1]; rfl, by rw [h1]; rfl, by rw [h1]; rfl, h2, h3⟩
    · exact Or.inr (Or.inl ⟨by rw [h1]; rfl, by rw [h1]; rfl, by rw [h1]; rfl, h2, h3⟩)
    · exact Or.inr (Or.inr (Or.inl ⟨by rw [h1]; rfl, by rw [h1]; rfl, by rw [h1]; rfl, h2, h3⟩))
    · exact Or.inr (Or.inr (Or.inr h1))
   clear hg
   rcases hg2 with ⟨c1, c2, c3, rfl, rfl⟩ | ⟨c1, c2, c3, rfl, rfl⟩ | ⟨c1, c2, c3, rfl, rfl⟩ | ⟨c1, c2, c3, rfl, rfl⟩
   all_goals
    go_enter Tryz.func47, Tryz.ntmps47
    go_wp2_with (first | (go_at_call 66; refine (HO.out _).mono ?_; rintro e' w' ⟨rfl, nx, rfl⟩) | (go_at_call 68; refine (HNB.out _).mono ?_; rintro e' w' ⟨rfl, nx, rfl⟩))
    refine (HW.out _).mono ?_
    rintro e' w' ⟨rfl, nw, rfl⟩
    go_wp2_with fail
    clear hl1 hm1
    go_loopw [97] (fun i wr => ∃ k : Nat, k ≤ l.length ∧ i = .int .i64 k ∧ Hid (Rz = zds (l.drop k) false tg (d + 1)) ∧ Hid (Boxd wr w.heap.size (exR op n m who a l.length c)) ∧ Grow w wr) (fun i _ => l.length - (intOf i).toNat)
    case atStart => exact ⟨0, by omega, rfl, HD0.out, (Boxd.new w _ 32).grow grI, grI⟩
    case round =>
     obtain ⟨k, hk, rfl, HRz, HB, hG⟩ := hrel
     have HG := Lib.hid hG
     obtain ⟨x1, x2, x3⟩ := HB.out
     have hIr := HIn.out.grow hG
     clear hG
     by_cases hlt : k < l.length
     · obtain ⟨bs, os, rfl, hbs⟩ := hIr.at'.addr (by omega)
       obtain ⟨y1, y2, y3, y4⟩ := hIr.at'.get k hlt
       have hP := HIH.out k hlt
       have hs := HSc.out k hlt
       rw [Eff.row_is] at hP y3
       have HP := Lib.hid (fun W (g : Grow wr W) => hP W (HG.out.trans g))
       clear hIr
       have hk8 : k ≤ 8 := by omega
       clear hP
       generalize l[k].subs.length = k1 at *
       by_cases hz : (l[k]).chk tg (d + 1) = 0
       · rw [if_neg (by rw [hz]; simp), Bool.false_and, if_neg (by decide)] at hs
         rw [hz, zat] at HP
         have HRz2 : Hid (Rz = zds (l.drop (k + 1)) false tg (d + 1)) := by rw [Hid, HRz.out, hs]
         clear hs hz
         go_wp2_with (go_at_call 47; refine (HP.out _ grI).mono ?_; rintro e' w' ⟨rfl, nx, rfl⟩)
         clear x1 x2 y1 y2 y3
         go_roundw
         case rel => exact ⟨k + 1, by omega, by go_num, HRz2, HB.out.grow grI, HG.out.trans grI⟩
         case measure => simp [intOf]; omega
       · rw [if_pos hz] at hs
         have hev := zao hz
         have HE : Hid (errV Rz = .iface 66 (.int .i64 ((l[k]).chk tg (d + 1)))) := by rw [Hid, HRz.out, hs, hev]
         rw [hev] at HP
         clear hs hz hev
         go_wp2_with (go_at_call 47; refine (HP.out _ grI).mono ?_; rintro e' w' ⟨rfl, nx, rfl⟩)
         go_ret
         exact ⟨by rw [HE.out]; rfl, HG.out.trans grI⟩
     · have hke : k = l.length := by omega
       subst hke
       have HE : Hid (errV Rz = .nilIface) := by rw [Hid, HRz.out, HDE.out]; rfl
       go_wp2_with fail
       go_ret
       exact ⟨by rw [HE.out]; rfl, HG.out.trans grI⟩
end Go.Proofs.YthfalocligkamaaGreatDoor
