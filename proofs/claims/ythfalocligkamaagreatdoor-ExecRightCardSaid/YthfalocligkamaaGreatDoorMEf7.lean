/- The walk of effect's check: All; check and Check of any effect. -/
import Derived.Test.YthfalocligkamaaGreatDoorMEf6
import Derived.Test.YthfalocligkamaaGreatDoorMEx13
namespace Go.Proofs.YthfalocligkamaaGreatDoor
open Go Go.RowKit Go.Shelf
theorem z5p {n m who tg : Int} (h : zk8 20 n m who = true) (ha : zmq 20 who tg = true ∨ (asks 20).wh.contains who = true) : who = 0 := by
 have hw := zdv h
 rcases ha with ha | ha
 · have e : (asks 20).tg = [] := by simp [asks]
   unfold zmq at ha
   rw [e] at ha
   simp at ha
 · have e : (asks 20).wh = [0] := by simp [asks]
   rw [e] at ha
   simpa using ha
theorem SubsAt.op0 {w : World} {lim : Nat → Prop} {bs os c : Nat} {e0 : Eff} (h : SubsAt w lim (some ⟨bs, os, none⟩) c [e0]) : w.cell? ⟨bs, os, none⟩ = some (I e0.op) := by
 rcases h with h | ⟨b', o', h1, h2, h3⟩
 · cases h
 · injection h1 with h1
   injection h1 with h1 h2'
   subst h1; subst h2'
   have := h3.cell 0 0 e0.row rfl (by omega)
   have e : (Sl.mk bs os [e0].length c).b = bs := rfl
   have e2 : (Sl.mk bs os [e0].length c).o = os := rfl
   rw [e, e2, Nat.zero_mul, Nat.add_zero, Eff.row_is] at this
   exact this
set_option maxRecDepth 100000 in
set_option maxHeartbeats 16000000 in
theorem z51 (n m : Int) (a : Option Addr) (c : Nat) (e0 : Eff) (IH : zzh e0) (w : World) (lim : Nat → Prop) (hI : Eff.In w lim (.mk 20 n m 0 a c [e0])) (tg d : Int) (hd : d ≤ 8) (hd0 : 0 ≤ d) (hb : zk8 20 n m 0 = true) :
 Calls Tryz.prog 47 #[.agg (exR 20 n m 0 a 1 c), .int .i64 tg, .int .i64 d] w fun r w' => r = .returned (errV (if zej e0.op = false then 2 else if e0.chk 1 (d + 1) ≠ 0 then e0.chk 1 (d + 1) else if e0.who ≠ 2 then 11 else 0)) ∧ Grow w w' := by
 have b2 : decide (8 < d) = false := by simpa using hd
 have hdb : d ≤ 8 := hd
 have HO := Lib.hid (fun W => ybq W)
 have HW := Lib.hid (fun W => zc1 W 1 0 (by omega) (by omega))
 rw [show hasN 1 0 = true by decide] at HW
 have HNB : Hid (∀ W, Calls Tryz.prog 68 #[.agg (exR 20 n m 0 a 1 c), .agg (shR false 3 99 1 0 1 1)] W fun e w' => e = .returned (.bool true) ∧ Grow W w') := fun W => by
  have := zcv W 20 n m 0 a 1 c false 3 99 1 0 1 1 (by omega) (by omega)
  have e : zk8 20 n m 0 = (inW n 3 false && inW m 99 false && inW 0 4 false && (if (20 : Int) = 23 ∨ (20 : Int) = 25 then decide (n ≤ 255) else if (20 : Int) = 14 then decide (112 ≤ m ∧ m ≤ 119) else true)) := rfl
  rw [← e, hb] at this
  exact this
 have HSi := Lib.hid (fun W => zoy W e0.op)
 have HIH : Hid (∀ (W : World), Grow w W → Calls Tryz.prog 47 #[.agg e0.row, .int .i64 1, .int .i64 (d + 1)] W fun r w' => r = .returned (errV (e0.chk 1 (d + 1))) ∧ Grow W w') := fun W g => IH W lim ((hI.sub (by simp)).grow g) 1 (d + 1) (by omega) (by omega)
 rw [Eff.row_is] at HIH
 obtain ⟨bs, os, rfl, hbs⟩ := hI.at'.addr (by simp)
 have hop := hI.at'.op0
 obtain ⟨y1, y2, y3, y4⟩ := hI.at'.get 0 (by simp)
 rw [Nat.zero_mul, Nat.add_zero] at y2 y3
 rw [List.getElem_cons_zero, Eff.row_is] at y3
 have y4 : 1 ≤ c := y4
 clear hb hd hI IH
 cases hs : zej e0.op
 · rw [hs] at HSi
   rw [if_pos rfl]
   have e1 : errV 2 = .iface 66 (.int .i64 2) := rfl
   rw [e1]
   clear hs HIH e1
   go_enter Tryz.func47, Tryz.ntmps47
   go_wp2_with (first | (go_at_call 66; refine (HO.out _).mono ?_; rintro e' w' ⟨rfl, nx, rfl⟩) | (go_at_call 68; refine (HNB.out _).mono ?_; rintro e' w' ⟨rfl, nx, rfl⟩) | (go_at_call 67; refine (HW.out _).mono ?_; rintro e' w' ⟨rfl, nx, rfl⟩) | (go_at_call 69; refine (HSi.out _).mono ?_; rintro e' w' ⟨rfl, nx, rfl⟩))
   go_ret
   exact ⟨rfl, grI⟩
 · rw [hs] at HSi
   rw [if_neg (by decide)]
   generalize e0.subs.length = k1 at *
   clear hs
   have HRes : Hid (∀ Rz, (if e0.chk 1 (d + 1) ≠ 0 then e0.chk 1 (d + 1) else if e0.who ≠ 2 then 11 else 0) = Rz → (e0.chk 1 (d + 1) ≠ 0 → Rz = e0.chk 1 (d + 1)) ∧ (e0.chk 1 (d + 1) = 0 → e0.who ≠ 2 → Rz = 11) ∧ (e0.chk 1 (d + 1) = 0 → e0.who = 2 → Rz = 0)) := fun Rz h => by
    subst h
    exact ⟨fun h => if_pos h, fun h1 h2 => by rw [if_neg (by rw [h1]; simp), if_pos h2], fun h1 h2 => by rw [if_neg (by rw [h1]; simp), if_neg (by rw [h2]; simp)]⟩
   generalize hR : (if e0.chk 1 (d + 1) ≠ 0 then e0.chk 1 (d + 1) else if e0.who ≠ 2 then 11 else 0) = Rz at *
   obtain ⟨r1, r2, r3⟩ := HRes.out Rz rfl
   have HR3 := Lib.hid (And.intro r1 (And.intro r2 r3))
   clear hR HRes r1 r2 r3
   generalize e0.chk 1 (d + 1) = cz at *
   go_enter Tryz.func47, Tryz.ntmps47
   go_wp2_with (first | (go_at_call 66; refine (HO.out _).mono ?_; rintro e' w' ⟨rfl, nx, rfl⟩) | (go_at_call 68; refine (HNB.out _).mono ?_; rintro e' w' ⟨rfl, nx, rfl⟩) | (go_at_call 67; refine (HW.out _).mono ?_; rintro e' w' ⟨rfl, nx, rfl⟩) | (go_at_call 69; refine (HSi.out _).mono ?_; rintro e' w' ⟨rfl, nx, rfl⟩))
   go_loopw [97] (fun i wr => ∃ k : Nat, k ≤ 1 ∧ i = .int .i64 k ∧ Hid (k = 1 → Rz = 0) ∧ Hid (Boxd wr w.heap.size (exR 20 n m 0 (some ⟨bs, os, none⟩) 1 c)) ∧ Grow w wr) (fun i _ => 1 - (intOf i).toNat)
   case atStart => exact ⟨0, by omega, rfl, fun h => (by cases h), (Boxd.new w _ 32).grow grI, grI⟩
   case round =>
    obtain ⟨k, hk, rfl, HRz, HB, hG⟩ := hrel
    obtain ⟨x9, rfl⟩ := hG
    obtain ⟨x1, x2, x3⟩ := HB.out
    by_cases hlt : k < 1
    · obtain rfl : k = 0 := by omega
      by_cases hz : cz = 0
      · subst hz
        rw [zat] at HIH
        by_cases hw : e0.who = 2
        · have HR0 := Lib.hid (HR3.out.2.2 rfl hw)
          have bw : (e0.who != 2) = false := by rw [hw]; rfl
          clear hw
          go_wp2_with (go_at_call 47; refine (HIH.out _ grI).mono ?_; rintro e' w' ⟨rfl, nx, rfl⟩)
          clear x1 x2 y1 y2 y3 bw hop
          go_roundw
          case rel => exact ⟨1, by omega, by go_num, fun _ => HR0.out, HB.out.grow grI, grI⟩
          case measure => simp [intOf]
        · have HR0 := Lib.hid (HR3.out.2.1 rfl hw)
          have bw : (e0.who != 2) = true := by simpa using hw
          clear hw
          go_wp2_with (go_at_call 47; refine (HIH.out _ grI).mono ?_; rintro e' w' ⟨rfl, nx, rfl⟩)
          go_ret
          exact ⟨by rw [HR0.out]; rfl, grI⟩
      · have HR0 := Lib.hid (HR3.out.1 hz)
        have hev := zao hz
        rw [hev] at HIH
        have HE : Hid (errV Rz = .iface 66 (.int .i64 cz)) := by rw [Hid, HR0.out, hev]
        clear hz hev
        go_wp2_with (go_at_call 47; refine (HIH.out _ grI).mono ?_; rintro e' w' ⟨rfl, nx, rfl⟩)
        go_ret
        exact ⟨by rw [HE.out]; rfl, grI⟩
    · obtain rfl : k = 1 := by omega
      have HR0 := Lib.hid (HRz rfl)
      go_wp2_with fail
      go_ret
      exact ⟨by rw [HR0.out]; rfl, grI⟩
theorem zet {op n m who : Int} {a : Option Addr} {c : Nat} {l : List Eff} {tg d v : Int} (h : zgd op n m who l.length (op0 l) tg d = v) (hv : v ≠ 0) : (Eff.mk op n m who a c l).chk tg d = v := by
 rw [Eff.chk_mk, h, if_pos hv]
theorem zqd {op n m who : Int} {a : Option Addr} {c : Nat} {l : List Eff} {tg d : Int} (h : zgd op n m who l.length (op0 l) tg d = 0) : (Eff.mk op n m who a c l).chk tg d = zds l (decide (op = 20)) (if op = 20 then 1 else tg) (d + 1) := by
 rw [Eff.chk_mk, h, if_neg (by simp)]
theorem zqi : ∀ e : Eff, zzh e
 | .mk op n m who a c l => by
   intro w lim hI tg d ht hd
   have IH : ∀ e, e ∈ l → zzh e := fun e _ => zqi e
   rw [Eff.row_mk]
   by_cases hop : 0 ≤ op ∧ op < 26
   · by_cases h8 : 8 < d
     · rw [zet (v := 3) (by unfold zgd; rw [if_neg (by omega), if_pos h8]) (by decide)]
       exact zzw w op n m who a l.length c tg d hop h8
     have hh := z6m op n m who l.length (op0 l) tg d hop (by omega)
     cases hb : zk8 op n m who
     · rw [hb, if_pos rfl] at hh
       rw [zet hh (by decide)]
       exact z52 w op n m who a l.length c tg d hop (by omega) ht hb
     rw [hb, if_neg (by decide)] at hh
     by_cases ha : zmq op who tg = false ∧ (asks op).wh.contains who = false
     · rw [if_pos ha] at hh
       rw [zet hh (by decide)]
       exact z50 w op n m who a l.length c tg d hop (by omega) ht hb ha.1 ha.2
     rw [if_neg ha] at hh
     have ha' : zmq op who tg = true ∨ (asks op).wh.contains who = true := by
      cases h1 : zmq op who tg
      · cases h2 : (asks op).wh.contains who
        · exact absurd ⟨h1, h2⟩ ha
        · exact Or.inr rfl
      · exact Or.inl rfl
     by_cases hl : l.length < (asks op).lo
     · rw [if_pos (Or.inl hl)] at hh
       rw [zet hh (by decide)]
       exact z9t w op n m who a l.length c tg d hop (by omega) ht hb ha' hl
     by_cases hm : (asks op).hi < l.length
     · rw [if_pos (Or.inr hm)] at hh
       rw [zet hh (by decide)]
       exact z9s w op n m who a l.length c tg d hop (by omega) ht hb ha' (by omega) hm
     rw [if_neg (by omega)] at hh
     by_cases h20 : op = 20
     · subst h20
       have hw : who = 0 := z5p hb ha'
       subst hw
       have hl1 : l.length = 1 := by
        have e1 : (asks 20).lo = 1 := by simp [asks]
        have e2 : (asks 20).hi = 1 := by simp [asks]
        rw [e1] at hl; rw [e2] at hm; omega
       match l, hl1, IH, hI, hh with
       | [e0], _, IH, hI, hh =>
         have h := z51 n m a c e0 (IH e0 (by simp)) w lim hI tg d (by omega) hd.1 hb
         have e : (if zej e0.op = false then 2 else if e0.chk 1 (d + 1) ≠ 0 then e0.chk 1 (d + 1) else if e0.who ≠ 2 then 11 else 0) = (Eff.mk 20 n m 0 a c [e0]).chk tg d := by
          cases hs : zej e0.op
          · rw [if_pos rfl, zet (v := 2) (by rw [hh]; exact if_pos ⟨rfl, hs⟩) (by decide)]
          · rw [if_neg (by decide), zqd (by rw [hh]; exact if_neg (by rintro ⟨_, h⟩; rw [show op0 [e0] = e0.op from rfl, hs] at h; cases h)), zfr, if_pos rfl]
            by_cases hw2 : e0.who = 2
            · simp [hw2, zds]
            · simp [hw2]
         rw [e] at h
         exact h
     · have h0 : ¬ (op = 20 ∧ zej (op0 l) = false) := fun h => h20 h.1
       rw [if_neg h0] at hh
       rw [zqd hh, if_neg h20, decide_eq_false h20]
       have h8l : (asks op).hi ≤ 8 := by
        unfold asks
        simp only
        (repeat' split) <;> decide
       exact zzx op n m who a c l IH w lim hI tg d hop h20 (by omega) hd.1 ht hb ha' (by omega) (by omega) (by omega)
   · rw [zet (v := 6) (by unfold zgd; rw [if_pos (by omega)]) (by decide)]
     exact z53 w op n m who a l.length c tg d hop
end Go.Proofs.YthfalocligkamaaGreatDoor
namespace Go.Proofs.YthfalocligkamaaGreatDoor
open Go Go.RowKit Go.Shelf
set_option maxRecDepth 100000 in
set_option maxHeartbeats 4000000 in
theorem zkw (e : Eff) (w : World) (lim : Nat → Prop) (hI : e.In w lim) (tg : Int) :
 Calls Tryz.prog 21 #[.agg e.row, .int .i64 tg] w fun r w' => r = .returned (errV (e.check tg)) ∧ Grow w w' := by
 unfold Eff.check
 by_cases h : tg < 0 ∨ 6 ≤ tg
 · rw [if_pos h, Eff.row_is]
   have e6 : errV 6 = .iface 66 (.int .i64 6) := rfl
   rw [e6]
   clear hI
   by_cases h0 : tg < 0
   · have b0 : decide (tg < 0) = true := by simpa using h0
     clear h
     go_enter Tryz.func21, Tryz.ntmps21
     go_wp2_with fail
     go_ret
     exact ⟨rfl, grI⟩
   · have b0 : decide (tg < 0) = false := by simpa using h0
     have b1 : decide (6 ≤ tg) = true := by simp; omega
     clear h
     go_enter Tryz.func21, Tryz.ntmps21
     go_wp2_with fail
     go_ret
     exact ⟨rfl, grI⟩
 · rw [if_neg h]
   have HC := Lib.hid (fun W (g : Grow w W) => zqi e W lim (hI.grow g) tg 1 (by omega) (by omega))
   have b0 : decide (tg < 0) = false := by simp; omega
   have b1 : decide (6 ≤ tg) = false := by simp; omega
   rw [Eff.row_is] at *
   clear hI h
   generalize e.chk tg 1 = z at *
   generalize hv : errV z = v at *
   clear hv
   go_enter Tryz.func21, Tryz.ntmps21
   go_wp2_with (go_at_call 47; refine (HC.out _ grI).mono ?_; rintro e' w' ⟨rfl, nx, rfl⟩)
   go_ret
   exact ⟨rfl, grI⟩
set_option maxRecDepth 100000 in
set_option maxHeartbeats 4000000 in
theorem z8r (w : World) (b : Nat) (own : Nat → Prop) (E : Em) (R : Emt w b own E) (he : E.err ≠ 0) (x : Ctx) (op n m who : Int) (a : Option Addr) (k c : Nat) :
 Calls Tryz.prog 30 #[.agg (doR b x), .agg (exR op n m who a k c)] w fun r w' => r = .returned (.tuple #[]) ∧ EPost w b own E w' := by
 have HR := Lib.hid R
 have HEr := Lib.hid (fun W (g : Grow w W) => by have := zap W b own E (R.grow g); rw [zao he] at this; exact this)
 clear R he
 go_enter Tryz.func30, Tryz.ntmps30
 go_wp2_with (go_at_call 17; refine (HEr.out _ grI).mono ?_; rintro e' w' ⟨rfl, nx, rfl⟩)
 refine bodyPost_ret (results_none rfl _ _ _) rfl ?_
 exact ⟨rfl, HR.out.stay grI⟩
end Go.Proofs.YthfalocligkamaaGreatDoor
