/- The walk of effect's Has. -/
import Derived.Test.YthfalocligkamaaGreatDoorMEf7
import Derived.Test.YthfalocligkamaaGreatDoorMEx4
namespace Go.Proofs.YthfalocligkamaaGreatDoor
open Go Go.RowKit Go.Shelf
inductive Eff.Lim : Eff → Prop
 | mk {op n m who : Int} {a : Option Addr} {c : Nat} {subs : List Eff} (h : subs.length ≤ 300) (hs : ∀ e, e ∈ subs → Eff.Lim e) : Eff.Lim (.mk op n m who a c subs)
theorem Eff.has_mk (op n m who : Int) (a : Option Addr) (c : Nat) (l : List Eff) (o : Int) : (Eff.mk op n m who a c l).has o = (op == o || hassE o l) := rfl
def zrg (e : Eff) : Prop := ∀ (w : World) (lim : Nat → Prop), e.In w lim → ∀ op : Int, Calls Tryz.prog 20 #[.agg e.row, .int .i64 op] w fun r w' => r = .returned (.bool (e.has op)) ∧ Grow w w'
theorem z6l (o : Int) (l : List Eff) (k : Nat) (hk : k < l.length) : hassE o (l.drop k) = ((l[k]).has o || hassE o (l.drop (k + 1))) := by
 rw [List.drop_eq_getElem_cons hk]; rfl
set_option maxRecDepth 100000 in
set_option maxHeartbeats 4000000 in
theorem z93 (e : Eff) (IH : zrg e) (w : World) (lim : Nat → Prop) (hI : e.In w lim) (op : Int) (q : Nat) (B : Boxd w q #[.int .i64 op]) :
 Calls Tryz.prog 46 #[.agg e.row, .pointer (some ⟨q, 0, none⟩)] w fun r w' => r = .returned (.bool (e.has op)) ∧ Grow w w' := by
 have HH := Lib.hid (fun W (g : Grow w W) => IH W lim (hI.grow g) op)
 obtain ⟨b1, b2, b3⟩ := B
 clear hI IH
 rw [Eff.row_is] at *
 generalize e.has op = z at *
 go_enter Tryz.func46, Tryz.ntmps46
 go_wp2_with (go_at_call 20; refine (HH.out _ grI).mono ?_; rintro e' w' ⟨rfl, nx, rfl⟩)
 go_ret
 exact ⟨rfl, grI⟩
set_option maxRecDepth 100000 in
set_option maxHeartbeats 8000000 in
theorem z6k (l : List Eff) (IH : ∀ e, e ∈ l → zrg e) (w : World) (lim : Nat → Prop) (a : Option Addr) (c : Nat) (R : SubsAt w lim a c l) (hIn : ∀ e, e ∈ l → e.In w lim) (hb : l.length ≤ 1048576) (op : Int) (q : Nat) (B : Boxd w q #[.int .i64 op]) :
 Calls Tryz.prog 65 #[.slice a l.length c, .func (.func 46) #[] #[.pointer (some ⟨q, 0, none⟩)]] w fun r w' => (∃ i : Int, r = .returned (.int .i64 i) ∧ decide (0 ≤ i) = hassE op l) ∧ Grow w w' := by
 have HF : Hid (∀ (k : Nat) (hk : k < l.length) (W : World), Grow w W → Calls Tryz.prog 46 #[.agg (l[k]).row, .pointer (some ⟨q, 0, none⟩)] W fun r w' => r = .returned (.bool ((l[k]).has op)) ∧ Grow W w') := fun k hk W g => z93 _ (IH _ (List.getElem_mem hk)) W lim ((hIn _ (List.getElem_mem hk)).grow g) op q (B.grow g)
 have HSc := Lib.hid (fun k hk => z6l op l k hk)
 have HDE : Hid (hassE op (l.drop l.length) = false) := by rw [Hid, List.drop_length]; rfl
 have HS : Hid (hassE op l = hassE op (l.drop 0)) := rfl
 have HR := Lib.hid R
 clear IH hIn R B
 generalize hassE op l = z at *
 go_enter Tryz.func65, Tryz.ntmps65
 go_wp2_with fail
 go_loopw [8] (fun i wr => ∃ k : Nat, k ≤ l.length ∧ i = .int .i64 k ∧ Hid (z = hassE op (l.drop k)) ∧ Grow w wr) (fun i _ => l.length - (intOf i).toNat)
 case atStart => exact ⟨0, by omega, rfl, HS.out, grI⟩
 case round =>
  obtain ⟨k, hk, rfl, HZ, hG⟩ := hrel
  have HG := Lib.hid hG
  by_cases hlt : k < l.length
  · have hRr := HR.out.kept (own := fun _ => False) (fun _ h => h.elim) (hG.kept _)
    obtain ⟨bs, os, rfl, hbs⟩ := hRr.addr (by omega)
    obtain ⟨y1, y2, y3, y4⟩ := hRr.get k hlt
    have hP := HF.out k hlt
    have hs := HSc.out k hlt
    rw [Eff.row_is] at hP y3
    have HP := Lib.hid (fun W (g : Grow wr W) => hP W (HG.out.trans g))
    have hk8 : k ≤ 1048576 := by omega
    clear hP hRr hG
    generalize l[k].subs.length = k1 at *
    generalize (l[k]).has op = zk at *
    cases zk
    · rw [Bool.false_or] at hs
      have HZ2 : Hid (z = hassE op (l.drop (k + 1))) := by rw [Hid, HZ.out, hs]
      clear hs
      go_wp2_with (go_at_call 46; refine (HP.out _ grI).mono ?_; rintro e' w' ⟨rfl, nx, rfl⟩)
      clear y1 y2 y3
      go_roundw
      case rel => exact ⟨k + 1, by omega, by go_num, HZ2, HG.out.trans grI⟩
      case measure => simp [intOf]; omega
    · rw [Bool.true_or] at hs
      have HZ2 : Hid (z = true) := by rw [Hid, HZ.out, hs]
      clear hs
      go_wp2_with (go_at_call 46; refine (HP.out _ grI).mono ?_; rintro e' w' ⟨rfl, nx, rfl⟩)
      go_ret
      exact ⟨⟨(k : Int), rfl, by rw [HZ2.out]; simp⟩, HG.out.trans grI⟩
  · have hke : k = l.length := by omega
    subst hke
    have HE : Hid (z = false) := by rw [Hid, HZ.out, HDE.out]
    clear hG
    go_wp2_with fail
    go_ret
    exact ⟨⟨-1, rfl, by rw [HE.out]; rfl⟩, HG.out.trans grI⟩
set_option maxRecDepth 100000 in
set_option maxHeartbeats 4000000 in
theorem z0i (l : List Eff) (IH : ∀ e, e ∈ l → zrg e) (w : World) (lim : Nat → Prop) (a : Option Addr) (c : Nat) (R : SubsAt w lim a c l) (hIn : ∀ e, e ∈ l → e.In w lim) (hb : l.length ≤ 1048576) (op : Int) (q : Nat) (B : Boxd w q #[.int .i64 op]) :
 Calls Tryz.prog 45 #[.slice a l.length c, .func (.func 46) #[] #[.pointer (some ⟨q, 0, none⟩)]] w fun r w' => r = .returned (.bool (hassE op l)) ∧ Grow w w' := by
 have HX := Lib.hid (fun W (g : Grow w W) => z6k l IH W lim a c (R.kept (own := fun _ => False) (fun _ h => h.elim) (g.kept _)) (fun e he => (hIn e he).grow g) hb op q (B.grow g))
 clear IH hIn R B
 generalize hassE op l = z at *
 go_enter Tryz.func45, Tryz.ntmps45
 go_wp2_with (go_at_call 65; refine (HX.out _ grI).mono ?_; rintro e' w' ⟨⟨i, rfl, hi⟩, nx, rfl⟩; have HIZ := Lib.hid hi; clear hi)
 go_ret
 exact ⟨by rw [← HIZ.out]; rfl, grI⟩
set_option maxRecDepth 100000 in
set_option maxHeartbeats 4000000 in
theorem z0j (op n m who : Int) (a : Option Addr) (c : Nat) (l : List Eff) (IH : ∀ e, e ∈ l → zrg e) (hb : l.length ≤ 1048576) : zrg (.mk op n m who a c l) := by
 intro w lim hI o
 have HC := Lib.hid (fun W (g : Grow w W) q (B : Boxd W q #[.int .i64 o]) => z0i l IH W lim a c ((hI.grow g).at') (fun e he => (hI.sub he).grow g) hb o q B)
 have HB0 : Hid (Boxd (w.alloc (.cells (exR op n m who a l.length c) 32)) w.heap.size (exR op n m who a l.length c)) := Boxd.new w _ _
 rw [Eff.row_mk, Eff.has_mk]
 clear IH hI
 generalize hassE o l = z at *
 by_cases h : op = o
 · subst h
   rw [beq_self_eq_true, Bool.true_or]
   go_enter Tryz.func20, Tryz.ntmps20
   go_wp2_with fail
   go_ret
   exact ⟨rfl, grI⟩
 · have h1 : (op == o) = false := by simpa using h
   rw [h1, Bool.false_or]
   clear h
   go_enter Tryz.func20, Tryz.ntmps20
   go_wp2_with (go_at_call 45; refine (HC.out _ grI _ (by first | exact Boxd.new' (by simp) | exact (Boxd.new' (by simp)).grow grI)).mono ?_; rintro e' w' ⟨rfl, nx, rfl⟩)
   go_ret
   exact ⟨rfl, grI⟩
theorem zqj : ∀ e : Eff, e.Lim → zrg e
 | .mk op n m who a c l, h => z0j op n m who a c l (fun e he => zqj e (by cases h with | mk _ hs => exact hs e he)) (by cases h with | mk h _ => omega)
end Go.Proofs.YthfalocligkamaaGreatDoor
namespace Go.Proofs.YthfalocligkamaaGreatDoor
open Go Go.RowKit Go.Shelf
inductive RoomP (e : Eff) (m : Int) : Ending → Prop
 | mk (v : Int) (ok : Bool) (h1 : m + 1 ≤ v) (h2 : v ≤ 301) (h3 : ok = true → v ≤ 300 ∧ e.Lim) : RoomP e m (.returned (.tuple #[.int .i64 v, .bool ok]))
def zum (e : Eff) : Prop := ∀ (w : World) (lim : Nat → Prop), e.In w lim → ∀ d m : Int, 0 ≤ d → d ≤ 41 → 0 ≤ m → m ≤ 300 →
 Calls Tryz.prog 61 #[.agg e.row, .int .i64 d, .int .i64 m] w fun r w' => RoomP e m r ∧ Grow w w'
set_option maxRecDepth 100000 in
set_option maxHeartbeats 8000000 in
theorem zwt (op n m who : Int) (a : Option Addr) (c : Nat) (l : List Eff) (IH : ∀ e, e ∈ l → zum e) : zum (.mk op n m who a c l) := by
 intro w lim hI d mn h0 h1 m0 m1
 have HIH : Hid (∀ (k : Nat) (hk : k < l.length) (W : World), Grow w W → ∀ m' : Int, 0 ≤ m' → m' ≤ 300 → d ≤ 40 → Calls Tryz.prog 61 #[.agg (l[k]).row, .int .i64 (d + 1), .int .i64 m'] W fun r w' => RoomP (l[k]) m' r ∧ Grow W w') := fun k hk W g m' a1 a2 a3 => IH _ (List.getElem_mem hk) W lim ((hI.sub (List.getElem_mem hk)).grow g) (d + 1) m' (by omega) (by omega) a1 a2
 have HIn := Lib.hid hI
 rw [Eff.row_mk]
 clear IH hI
 by_cases h40 : 40 < d
 · go_enter Tryz.func61, Tryz.ntmps61
   go_wp2_with fail
   go_ret2
   exact ⟨RoomP.mk (mn + 1) false (by omega) (by omega) (fun h => by cases h), grI⟩
 by_cases h300 : 300 < mn + 1
 · go_enter Tryz.func61, Tryz.ntmps61
   go_wp2_with fail
   go_ret2
   exact ⟨RoomP.mk (mn + 1) false (by omega) (by omega) (fun h => by cases h), grI⟩
 go_enter Tryz.func61, Tryz.ntmps61
 go_wp2_with fail
 go_loopw [2, 24] (fun v i wr => ∃ (k : Nat) (cur : Int), k ≤ l.length ∧ i = .int .i64 k ∧ v = .int .i64 cur ∧ Hid ((k : Int) + mn + 1 ≤ cur) ∧ Hid (cur ≤ 300) ∧ Hid (∀ j (hj : j < l.length), j < k → (l[j]).Lim) ∧ Hid (Boxd wr w.heap.size (exR op n m who a l.length c)) ∧ Grow w wr) (fun _ i _ => l.length - (intOf i).toNat)
 case atStart => exact ⟨0, mn + 1, by omega, rfl, rfl, by show ((0 : Nat) : Int) + mn + 1 ≤ mn + 1; omega, by show mn + 1 ≤ 300; omega, fun j _ hj => absurd hj (Nat.not_lt_zero _), (Boxd.new w _ 32).grow grI, grI⟩
 case round =>
  obtain ⟨k, cur, hk, rfl, rfl, HK, HCu, HL, HB, hG⟩ := hrel
  have HG := Lib.hid hG
  obtain ⟨x1, x2, x3⟩ := HB.out
  have hIr := HIn.out.grow hG
  have c1 : (k : Int) + mn + 1 ≤ cur := HK.out
  have c2 : cur ≤ 300 := HCu.out
  clear hG
  by_cases hlt : k < l.length
  · obtain ⟨bs, os, rfl, hbs⟩ := hIr.at'.addr (by omega)
    obtain ⟨y1, y2, y3, y4⟩ := hIr.at'.get k hlt
    have hP := HIH.out k hlt
    rw [Eff.row_is] at hP y3
    have HP := Lib.hid (fun W (g : Grow wr W) => hP W (HG.out.trans g) cur (by omega) (by omega) (by omega))
    have hk8 : k ≤ 300 := by omega
    clear hP hIr
    have HLk : Hid ((l[k]).Lim → ∀ j (hj : j < l.length), j < k + 1 → (l[j]).Lim) := fun h j hj hjk => by
     by_cases e : j = k
     · subst e; exact h
     · exact HL.out j hj (by omega)
    generalize hlk : l[k] = ek at *
    clear hlk
    generalize ek.subs.length = k1 at *
    go_wp2_with (go_at_call 61; refine (HP.out _ grI).mono ?_; rintro e' w' ⟨⟨v, ok, v1, v2, v3⟩, nx, rfl⟩; have HV := Lib.hid v3; clear v3; cases ok)
    · go_ret2
      exact ⟨RoomP.mk v false (by omega) (by omega) (fun h => by cases h), HG.out.trans grI⟩
    · obtain ⟨z1, z2⟩ := HV.out (by simp)
      have HZ := Lib.hid (HLk.out z2)
      clear z2 x1 x2 y1 y2 y3
      go_roundw
      case rel => exact ⟨k + 1, v, by omega, by go_num, rfl, by show ((k + 1 : Nat) : Int) + mn + 1 ≤ v; omega, z1, HZ.out, HB.out.grow grI, HG.out.trans grI⟩
      case measure => simp [intOf]; omega
  · have hke : k = l.length := by omega
    have HLim : Hid (Eff.Lim (.mk op n m who a c l)) := Eff.Lim.mk (by omega) (fun e he => by
     obtain ⟨j, hj, rfl⟩ := List.mem_iff_getElem.1 he
     exact HL.out j hj (by omega))
    clear hIr
    go_wp2_with fail
    go_ret2
    exact ⟨RoomP.mk cur true (by omega) (by omega) (fun _ => ⟨c2, HLim.out⟩), HG.out.trans grI⟩
theorem zq3 : ∀ e : Eff, zum e
 | .mk op n m who a c l => zwt op n m who a c l (fun e _ => zq3 e)
set_option maxRecDepth 100000 in
set_option maxHeartbeats 4000000 in
theorem zsb (e : Eff) (w : World) (lim : Nat → Prop) (hI : e.In w lim) : Calls Tryz.prog 37 #[.agg e.row] w fun r w' => (∃ z : Bool, r = .returned (.bool z) ∧ (z = false → e.Lim)) ∧ Grow w w' := by
 have HR := Lib.hid (fun W (g : Grow w W) => zq3 e W lim (hI.grow g) 0 0 (by omega) (by omega) (by omega) (by omega))
 clear hI
 rw [Eff.row_is] at *
 go_enter Tryz.func37, Tryz.ntmps37
 go_wp2_with (go_at_call 61; refine (HR.out _ grI).mono ?_; rintro e' w' ⟨⟨v, ok, v1, v2, v3⟩, nx, rfl⟩; have HV := Lib.hid v3; clear v3; cases ok)
 · go_ret
   exact ⟨⟨true, rfl, fun h => by cases h⟩, grI⟩
 · obtain ⟨z1, z2⟩ := HV.out (by simp)
   have HZ := Lib.hid z2
   clear z2
   go_wp2_with fail
   go_ret
   exact ⟨⟨_, rfl, fun _ => HZ.out⟩, grI⟩
def zok (e : Eff) : Prop := ∀ (w : World) (lim : Nat → Prop), e.In w lim →
 Calls Tryz.prog 38 #[.agg e.row] w fun r w' => (∃ v : Int, r = .returned (.int .i64 v) ∧ 0 ≤ v ∧ v ≤ 1000) ∧ Grow w w'
set_option maxRecDepth 100000 in
set_option maxHeartbeats 8000000 in
theorem zr3 (op n m who : Int) (a : Option Addr) (c : Nat) (l : List Eff) (IH : ∀ e, e ∈ l → zok e) (hl : l.length ≤ 300) : zok (.mk op n m who a c l) := by
 intro w lim hI
 have HIH : Hid (∀ (k : Nat) (hk : k < l.length) (W : World), Grow w W → Calls Tryz.prog 38 #[.agg (l[k]).row] W fun r w' => (∃ v : Int, r = .returned (.int .i64 v) ∧ 0 ≤ v ∧ v ≤ 1000) ∧ Grow W w') := fun k hk W g => IH _ (List.getElem_mem hk) W lim ((hI.sub (List.getElem_mem hk)).grow g)
 have HIn := Lib.hid hI
 rw [Eff.row_mk]
 clear IH hI
 go_enter Tryz.func38, Tryz.ntmps38
 go_wp2_with fail
 have hc0 : 0 ≤ 1 + max (min n 100) 0 ∧ 1 + max (min n 100) 0 ≤ 1000 := by omega
 generalize 1 + max (min n 100) 0 = c0 at *
 go_loopw [3, 14] (fun v i wr => ∃ (k : Nat) (cur : Int), k ≤ l.length ∧ i = .int .i64 k ∧ v = .int .i64 cur ∧ Hid (0 ≤ cur ∧ cur ≤ 1000) ∧ Hid (Boxd wr w.heap.size (exR op n m who a l.length c)) ∧ Grow w wr) (fun _ i _ => l.length - (intOf i).toNat)
 case atStart => exact ⟨0, c0, by omega, rfl, rfl, hc0, (Boxd.new w _ 32).grow grI, grI⟩
 case round =>
  obtain ⟨k, cur, hk, rfl, rfl, HCu, HB, hG⟩ := hrel
  have HG := Lib.hid hG
  obtain ⟨x1, x2, x3⟩ := HB.out
  have hIr := HIn.out.grow hG
  obtain ⟨c1, c2⟩ := HCu.out
  clear hG
  by_cases hlt : k < l.length
  · obtain ⟨bs, os, rfl, hbs⟩ := hIr.at'.addr (by omega)
    obtain ⟨y1, y2, y3, y4⟩ := hIr.at'.get k hlt
    have hP := HIH.out k hlt
    rw [Eff.row_is] at hP y3
    have HP := Lib.hid (fun W (g : Grow wr W) => hP W (HG.out.trans g))
    have hk8 : k ≤ 300 := by omega
    clear hP hIr
    generalize l[k].subs.length = k1 at *
    go_wp2_with (go_at_call 38; refine (HP.out _ grI).mono ?_; rintro e' w' ⟨⟨v, rfl, v1, v2⟩, nx, rfl⟩)
    have hm : 0 ≤ min (cur + v) 1000 ∧ min (cur + v) 1000 ≤ 1000 := by omega
    have HM := Lib.hid hm
    clear x1 x2 y1 y2 y3 hm
    go_roundw
    case rel => exact ⟨k + 1, _, by omega, by go_num, rfl, HM.out, HB.out.grow grI, HG.out.trans grI⟩
    case measure => simp [intOf]; omega
  · clear hIr
    go_wp2_with fail
    go_ret
    exact ⟨⟨cur, rfl, c1, c2⟩, HG.out.trans grI⟩
theorem zm7 : ∀ e : Eff, e.Lim → zok e
 | .mk op n m who a c l, h => zr3 op n m who a c l (fun e he => zm7 e (by cases h with | mk _ hs => exact hs e he)) (by cases h with | mk h _ => omega)
end Go.Proofs.YthfalocligkamaaGreatDoor
namespace Go.Proofs.YthfalocligkamaaGreatDoor
open Go Go.RowKit Go.Shelf
@[go_sem] theorem ybe (op n m who : Int) (a : Option Addr) (k c : Nat) (x : Ctx) : (zdc op n m who a k c x).size = 9 := by simp [zdc]
@[go_sem] theorem yic (op n m who : Int) (a : Option Addr) (k c : Nat) (x : Ctx) : (zdc op n m who a k c x)[0]? = some (I op) := rfl
@[go_sem] theorem yid (op n m who : Int) (a : Option Addr) (k c : Nat) (x : Ctx) : (zdc op n m who a k c x)[1]? = some (I n) := rfl
@[go_sem] theorem yie (op n m who : Int) (a : Option Addr) (k c : Nat) (x : Ctx) : (zdc op n m who a k c x)[2]? = some (I m) := rfl
@[go_sem] theorem yif (op n m who : Int) (a : Option Addr) (k c : Nat) (x : Ctx) : (zdc op n m who a k c x)[3]? = some (I who) := rfl
@[go_sem] theorem yig (op n m who : Int) (a : Option Addr) (k c : Nat) (x : Ctx) : (zdc op n m who a k c x)[4]? = some (.slice a k c) := rfl
@[go_sem] theorem yih (op n m who : Int) (a : Option Addr) (k c : Nat) (x : Ctx) : (zdc op n m who a k c x)[5]? = some (I x.src) := rfl
@[go_sem] theorem yii (op n m who : Int) (a : Option Addr) (k c : Nat) (x : Ctx) : (zdc op n m who a k c x)[6]? = some (I x.ctl) := rfl
@[go_sem] theorem yij (op n m who : Int) (a : Option Addr) (k c : Nat) (x : Ctx) : (zdc op n m who a k c x)[7]? = some (I x.kind) := rfl
@[go_sem] theorem yik (op n m who : Int) (a : Option Addr) (k c : Nat) (x : Ctx) : (zdc op n m who a k c x)[8]? = some (I x.tgt) := rfl
@[go_sem] theorem yf7 (op n m who : Int) (a : Option Addr) (k c : Nat) (x : Ctx) (h : 0 < (zdc op n m who a k c x).size) : (zdc op n m who a k c x)[0]'h = I op := by simp [zdc]
@[go_sem] theorem yf8 (op n m who : Int) (a : Option Addr) (k c : Nat) (x : Ctx) (h : 1 < (zdc op n m who a k c x).size) : (zdc op n m who a k c x)[1]'h = I n := by simp [zdc]
@[go_sem] theorem yf9 (op n m who : Int) (a : Option Addr) (k c : Nat) (x : Ctx) (h : 2 < (zdc op n m who a k c x).size) : (zdc op n m who a k c x)[2]'h = I m := by simp [zdc]
@[go_sem] theorem yga (op n m who : Int) (a : Option Addr) (k c : Nat) (x : Ctx) (h : 5 < (zdc op n m who a k c x).size) : (zdc op n m who a k c x)[5]'h = I x.src := by simp [zdc]
@[go_sem] theorem ygb (op n m who : Int) (a : Option Addr) (k c : Nat) (x : Ctx) (h : 6 < (zdc op n m who a k c x).size) : (zdc op n m who a k c x)[6]'h = I x.ctl := by simp [zdc]
@[go_sem] theorem ygc (op n m who : Int) (a : Option Addr) (k c : Nat) (x : Ctx) (h : 7 < (zdc op n m who a k c x).size) : (zdc op n m who a k c x)[7]'h = I x.kind := by simp [zdc]
@[go_sem] theorem ygd (op n m who : Int) (a : Option Addr) (k c : Nat) (x : Ctx) (h : 8 < (zdc op n m who a k c x).size) : (zdc op n m who a k c x)[8]'h = I x.tgt := by simp [zdc]
@[go_sem] theorem yd3 (op n m who : Int) (a : Option Addr) (k c : Nat) (x : Ctx) : zai (zdc op n m who a k c x) = true := by
 simp only [zai, zdc, List.all_toArray, List.all_cons, List.all_nil, Bool.and_true]
 rfl
@[go_sem] theorem yd2 (op n m who : Int) (a : Option Addr) (k c : Nat) (x : Ctx) : sub (zdc op n m who a k c x) 0 9 = zdc op n m who a k c x := rfl
@[go_sem] theorem yf6 (op n m who : Int) (a : Option Addr) (k c : Nat) (x : Ctx) : sub (zdc op n m who a k c x) 0 5 = exR op n m who a k c := rfl
@[go_sem ↓] theorem yd4 (ρ : Operand → Value) (dst : Option Tmp) (x : Operand) (ty : TypeId) (pos : String) (after : Array Edge) (guard : Option (Nat × Bool)) :
 execOp ρ { dst, op := .load 34 x, type := ty, pos, after, guard } = za1 34 (ρ x) := rfl
@[go_sem ↓] theorem ycv (ρ : Operand → Value) (dst : Option Tmp) (x y : Operand) (ty : TypeId) (pos : String) (after : Array Edge) (guard : Option (Nat × Bool)) :
 execOp ρ { dst, op := .store 34 x y, type := ty, pos, after, guard } = zay 34 (ρ x) (ρ y) := rfl
@[go_sem] theorem z5c (w : World) (b o : Nat) (h : o + 9 ≤ (w.blk b).size) : (za1 34 (.pointer (some ⟨b, o, none⟩))).run Tryz.prog w = .ok (.value (.agg (sub (w.blk b) o 9))) w :=
 zau w b o 34 9 (by kernel_rfl) (by kernel_rfl) h (by omega)
@[go_sem] theorem z2g (w : World) (b : Nat) (cs : Array Value) (h : (w.blk b).size = 9) (hc : cs.size = 9) (h1 : zai cs = true) (hf : w.free b = true) : (zay 34 (.pointer (some ⟨b, 0, none⟩)) (.agg cs)).run Tryz.prog w = .ok .skip (w.setRow b cs) :=
 zav w b 34 9 _ (by kernel_rfl) h hc (by omega) hf h1
@[go_sem ↓] theorem z9r (ρ : Operand → Value) (dst : Option Tmp) (parts : Array (Nat × Operand)) (ty : TypeId) (pos : String) (after : Array Edge) (guard : Option (Nat × Bool)) :
 execOp ρ { dst, op := .build 39 parts, type := ty, pos, after, guard } = za2 39 (parts.map fun (i, x) => (i, ρ x)) := rfl
@[go_sem] theorem z2a (w : World) (x : Ctx) : (za2 39 #[(0, .int .i64 x.src), (1, .int .i64 x.ctl), (2, .int .i64 x.kind), (3, .int .i64 x.tgt)]).run Tryz.prog w = .ok (.value (.agg (ctR x))) w := by kernel_rfl
theorem zl0 (w : World) (b : Nat) (h : (w.blk b).size = 4) : (loadVar 39 ⟨b, 0, none⟩).run Tryz.prog w = .ok (.agg (sub (w.blk b) 0 4)) w := by
 have := zn3 w b 0 (by omega)
 unfold za1 at this
 rw [Sem.run_bind] at this
 simp only [Instr.loadAt, Instr.sureAddr, Sem.run_bind, Sem.run_pure, Result.andThen_ok] at this
 cases hr : (loadVar 39 ⟨b, 0, none⟩).run Tryz.prog w with
 | ok v w' => rw [hr] at this; simp at this; rw [this.1, this.2]
 | halt x w' => rw [hr] at this; simp [Result.andThen] at this
theorem zmb {fn : Func} {p : Tmp} (h : fn.results = #[.cell p 39]) (tmps : Array Value) (w : World) (b : Nat) (hp : tmps.getD p undef = .pointer (some ⟨b, 0, none⟩)) (h1 : (w.blk b).size = 4) :
 (results fn tmps).run Tryz.prog w = .ok (.agg (sub (w.blk b) 0 4)) w := by
 unfold results
 rw [h]
 have e1 := zl0 w b h1
 have hp' : tmps[p]?.getD undef = .pointer (some ⟨b, 0, none⟩) := by simpa using hp
 simp [asAddr, hp', e1]
set_option maxRecDepth 100000 in
set_option maxHeartbeats 4000000 in
theorem ziy (w : World) (op n m who : Int) (a : Option Addr) (k c : Nat) (x : Ctx) : Calls Tryz.prog 9 #[.agg (zdc op n m who a k c x)] w fun r w' => r = .returned (.agg (ctR x)) ∧ Grow w w' := by
 go_enter Tryz.func9, Tryz.ntmps9
 go_wp2_with fail
 refine bodyPost_ret (zmb rfl _ _ _ rfl ?_) rfl ?_
 · go_simp
 · exact ⟨by go_simp, grI⟩
structure Fit (S : St) (nd : Nat) (e : Eff) : Prop where
 long : longB S 24 = false
 draws : nd ≤ 5000
 lim : e.Lim
set_option maxRecDepth 100000 in
set_option maxHeartbeats 8000000 in
theorem znb (S : St) (V : SV) (w : World) (R : RepSt w V S) (sd : Sl) (hd : sd.n ≤ 9223372036854775807) (e : Eff) (x : Ctx) (lim : Nat → Prop) (hI : e.In w lim) :
 Calls Tryz.prog 15 #[.agg (stA V S.num), sd.val, .agg (zdc e.op e.n e.m e.who e.a e.subs.length e.c x)] w fun r w' => (∃ z : Bool, r = .returned (.bool z) ∧ (z = false → Fit S sd.n e)) ∧ Grow w w' := by
 have HL := Lib.hid (fun W (g : Grow w W) => z1s S V 24 (by omega) W (R.grow g))
 have H6 := Lib.hid (fun W (g : Grow w W) => by have := zsb e W lim (hI.grow g); rw [Eff.row_is] at this; exact this)
 have HH : Hid (e.Lim → ∀ W, Grow w W → Calls Tryz.prog 38 #[.agg (exR e.op e.n e.m e.who e.a e.subs.length e.c)] W fun r w' => (∃ v : Int, r = .returned (.int .i64 v) ∧ 0 ≤ v ∧ v ≤ 1000) ∧ Grow W w') := fun hl W g => by have := zm7 e hl W lim (hI.grow g); rw [Eff.row_is] at this; exact this
 have HF : Hid (longB S 24 = false → sd.n ≤ 5000 → e.Lim → Fit S sd.n e) := fun a b c => ⟨a, b, c⟩
 clear R hI
 generalize e.subs.length = k at *
 generalize longB S 24 = lo at *
 cases lo with
 | true =>
   clear H6 HH HF
   go_enter Tryz.func15, Tryz.ntmps15
   go_wp2_with (go_at_call 7; refine (HL.out _ grI).mono ?_; rintro e' w' ⟨rfl, nx, rfl⟩)
   go_ret
   exact ⟨⟨true, rfl, fun h => by cases h⟩, grI⟩
 | false =>
   by_cases h5 : 5000 < sd.n
   · have h5' : (5000 : Int) < (sd.n : Int) := by omega
     clear H6 HH HF
     go_enter Tryz.func15, Tryz.ntmps15
     go_wp2_with (go_at_call 7; refine (HL.out _ grI).mono ?_; rintro e' w' ⟨rfl, nx, rfl⟩)
     go_ret
     exact ⟨⟨true, rfl, fun h => by cases h⟩, grI⟩
   · have h5' : ¬ (5000 : Int) < (sd.n : Int) := by omega
     have HF2 := Lib.hid (fun h => HF.out rfl (by omega) h)
     clear HF h5
     go_enter Tryz.func15, Tryz.ntmps15
     go_wp2_with (first | (go_at_call 7; refine (HL.out _ grI).mono ?_; rintro e' w' ⟨rfl, nx, rfl⟩) | (go_at_call 37; refine (H6.out _ grI).mono ?_; rintro e' w' ⟨⟨z, rfl, hz⟩, n6, rfl⟩; have HZ := Lib.hid hz; clear hz; cases z))
     · have hlim := HZ.out (by simp)
       have HLm := Lib.hid hlim
       have HH2 := Lib.hid (HH.out hlim)
       clear hlim HH
       go_wp2_with (go_at_call 38; refine (HH2.out _ grI).mono ?_; rintro e' w' ⟨⟨v, rfl, v1, v2⟩, n7, rfl⟩)
       go_ret
       exact ⟨⟨_, rfl, fun _ => HF2.out HLm.out⟩, grI⟩
     · go_wp2_with fail
       go_ret
       exact ⟨⟨true, rfl, fun h => by cases h⟩, grI⟩
end Go.Proofs.YthfalocligkamaaGreatDoor
