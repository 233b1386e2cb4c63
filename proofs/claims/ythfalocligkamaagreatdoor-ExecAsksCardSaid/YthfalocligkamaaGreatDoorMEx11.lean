/- What the statics of a right state are, in plain Lean. -/
import Derived.Test.YthfalocligkamaaGreatDoorMUses
import Derived.Test.YthfalocligkamaaGreatDoorMEval
import Derived.Test.YthfalocligkamaaGreatDoorMIs19
import Derived.Test.YthfalocligkamaaGreatDoorMEx5
namespace Go.Proofs.YthfalocligkamaaGreatDoor
open Go Go.RowKit
def z8y (a : AbN) : Bool := a.wh != 5 || (decide (0 ≤ a.grp) && decide (a.grp ≤ 3) && (a.op == 10 || a.op == 23 || a.op == 24 || a.op == 25) && decide (-3 ≤ a.n) && decide (a.n ≤ 255) && decide (-3 ≤ a.m) && decide (a.m ≤ 3) && (a.op == 10 || a.op == 24 || decide (0 ≤ a.n)))
theorem zt8 : ∀ n, n < 120 → ((zcs n).abs.all z8y) = true := by decide +kernel
structure StFine (S : St) (t : StN) : Prop where
 src : 0 ≤ t.src ∧ t.src < S.objs.length
 ctl : t.ctl = gt (rowAt S.objs t.src.toNat) 2
 grp : 0 ≤ t.grp ∧ t.grp ≤ 3
 op : t.op = 10 ∨ t.op = 23 ∨ t.op = 24 ∨ t.op = 25
 n : -3 ≤ t.n ∧ t.n ≤ 255
 m : -3 ≤ t.m ∧ t.m ≤ 3
 pos : t.op = 23 ∨ t.op = 25 → 0 ≤ t.n
theorem zoa {S : St} (h : Right S) : ∀ t ∈ zcn S, StFine S t := by
 intro t ht
 unfold zcn at ht
 obtain ⟨id, hid, ht⟩ := List.mem_flatMap.1 ht
 obtain ⟨o1, o2, _, _⟩ := h.zon.ok 8 (by decide) id hid
 obtain ⟨d, rfl⟩ := Int.eq_ofNat_of_zero_le o1
 have hd : d < S.objs.length := by omega
 unfold zgo at ht
 rw [Int.toNat_natCast] at ht
 obtain ⟨x, hx, rfl⟩ := List.mem_map.1 ht
 obtain ⟨i, rfl, hi, hw⟩ := zrd _ _ _ hx
 have hc := h.card hd
 have hall := zt8 (gt (rowAt S.objs d) 0).toNat (by omega)
 have hb : z8y ((zbj S d).abs.getD i ⟨0, 0, 0, 0, 0⟩) = true := by
  refine List.all_eq_true.1 hall _ ?_
  show (zbj S d).abs.getD i _ ∈ (zbj S d).abs
  rw [List.getD_eq_getElem?_getD, List.getElem?_eq_getElem hi]
  exact List.getElem_mem hi
 have e : zih S d (i : Int) = ⟨d, gt (rowAt S.objs d) 2, ((zbj S d).abs.getD i ⟨0, 0, 0, 0, 0⟩).grp, ((zbj S d).abs.getD i ⟨0, 0, 0, 0, 0⟩).op, ((zbj S d).abs.getD i ⟨0, 0, 0, 0, 0⟩).n, ((zbj S d).abs.getD i ⟨0, 0, 0, 0, 0⟩).m⟩ := by rw [zih, Int.toNat_natCast]
 rw [e]
 generalize (zbj S d).abs.getD i ⟨0, 0, 0, 0, 0⟩ = a at *
 unfold z8y at hb
 simp only [Bool.or_eq_true, bne_iff_ne, ne_eq, Bool.and_eq_true, decide_eq_true_eq, beq_iff_eq] at hb
 rcases hb with hb | hb
 · exact absurd hw hb
 · obtain ⟨⟨⟨⟨⟨⟨⟨h1, h2⟩, h3⟩, h4⟩, h5⟩, h6⟩, h7⟩, h8⟩ := hb
   exact ⟨⟨by omega, by show (d : Int) < _; omega⟩, by show _ = gt (rowAt S.objs (d : Int).toNat) 2; rw [Int.toNat_natCast], ⟨h1, h2⟩, by rcases h3 with ((h | h) | h) | h <;> simp [h], ⟨h4, h5⟩, ⟨h6, h7⟩, fun h => by
    rcases h8 with (h' | h') | h'
    · rcases h with h | h <;> (simp only at h; omega)
    · rcases h with h | h <;> (simp only at h; omega)
    · exact h'⟩
theorem zvn : ∀ n, n < 120 → 0 ≤ (zcs n).says ∧ (zcs n).says < 256 ∧ -100 ≤ (zcs n).pw ∧ (zcs n).pw ≤ 100 ∧ -100 ≤ (zcs n).tf ∧ (zcs n).tf ≤ 100 := by decide +kernel
end Go.Proofs.YthfalocligkamaaGreatDoor
namespace Go.Proofs.YthfalocligkamaaGreatDoor
open Go Go.RowKit Go.Shelf
structure EvIn (k : Int) (e : Evl) : Prop where
 p : -300 ≤ e.p ∧ e.p ≤ 300
 t : -300 ≤ e.t ∧ e.t ≤ 300
 mp : -2147483648 - 300 * k ≤ e.mp ∧ e.mp ≤ 2147483648 + 300 * k
 mt : -2147483648 - 300 * k ≤ e.mt ∧ e.mt ≤ 2147483648 + 300 * k
theorem EvIn.step {S : St} {d : Nat} {k : Int} {e : Evl} {x : StN} (hk : 0 ≤ k ∧ k ≤ 1000) (h : EvIn k e) (F : StFine S x) : EvIn (k + 1) (zef S d e x) := by
 obtain ⟨h1, h2, h3, h4⟩ := h
 have hn := F.n
 have hm := F.m
 unfold zef
 (repeat' split) <;> (refine ⟨?_, ?_, ?_, ?_⟩ <;> (try dsimp only) <;> (try unfold wrap64) <;> omega)
theorem EvIn.fold {S : St} {d : Nat} : ∀ (l : List StN) {k : Int} {e : Evl}, 0 ≤ k → k + l.length ≤ 1000 → (∀ x, x ∈ l → StFine S x) → EvIn k e → EvIn (k + l.length) (l.foldl (zef S d) e)
 | [], k, e, _, _, _, h => by simpa using h
 | x :: l, k, e, h0, hk, hl, h => by
   rw [List.length_cons] at hk ⊢
   have := EvIn.fold (d := d) l (k := k + 1) (e := zef S d e x) (by omega) (by omega) (fun y hy => hl y (by simp [hy])) (h.step ⟨h0, by omega⟩ (hl x (by simp)))
   rw [show k + ((l.length + 1 : Nat) : Int) = k + 1 + l.length by omega]
   exact this
theorem z3f {S : St} (h : Right S) {d : Nat} (hd : d < S.objs.length) : (-4294967296 ≤ gt (shapeN S d) 0 ∧ gt (shapeN S d) 0 ≤ 4294967296) ∧ (-4294967296 ≤ gt (shapeN S d) 1 ∧ gt (shapeN S d) 1 ≤ 4294967296) := by
 have hc := h.card hd
 have hs := zvn (gt (rowAt S.objs d) 0).toNat (by omega)
 have ho := h.o7 hd
 have h0 : EvIn 0 (ev0 S d) := ⟨by show -300 ≤ (zcs (gt (rowAt S.objs d) 0).toNat).pw ∧ (zcs (gt (rowAt S.objs d) 0).toNat).pw ≤ 300; omega, by show -300 ≤ (zcs (gt (rowAt S.objs d) 0).toNat).tf ∧ (zcs (gt (rowAt S.objs d) 0).toNat).tf ≤ 300; omega, by show _ ≤ gt (rowAt S.objs d) 7 + gt (rowAt S.objs d) 8 ∧ gt (rowAt S.objs d) 7 + gt (rowAt S.objs d) 8 ≤ _; omega, by show _ ≤ gt (rowAt S.objs d) 7 + gt (rowAt S.objs d) 9 ∧ gt (rowAt S.objs d) 7 + gt (rowAt S.objs d) 9 ≤ _; omega⟩
 have hl := zii S
 have h8 := h.smallN.list 8 (by omega)
 have := EvIn.fold (d := d) (zcn S) (Int.le_refl 0) (by omega) (zoa h) h0
 obtain ⟨h1, h2, h3, h4⟩ := this
 have e : evN S d = (zcn S).foldl (zef S d) (ev0 S d) := rfl
 rw [← e] at h1 h2 h3 h4
 refine ⟨?_, ?_⟩
 · show _ ≤ wrap64 ((evN S d).p + (evN S d).mp) ∧ wrap64 ((evN S d).p + (evN S d).mp) ≤ _
   unfold wrap64; omega
 · show _ ≤ wrap64 ((evN S d).t + (evN S d).mt) ∧ wrap64 ((evN S d).t + (evN S d).mt) ≤ _
   unfold wrap64; omega
end Go.Proofs.YthfalocligkamaaGreatDoor
namespace Go.Proofs.YthfalocligkamaaGreatDoor
open Go Go.RowKit Go.Shelf
set_option maxRecDepth 100000 in
set_option maxHeartbeats 8000000 in
theorem zkl (w : World) (b : Nat) (own : Nat → Prop) (E : Em) (R : Emt w b own E) {d : List Int} (hQ : Oq d E) (hd : d.length ≤ 1048576) (GL : GlobE w own) (x : Ctx) (op n m who : Int) (a : Option Addr) (k c : Nat) (q : Nat) (he : E.err = 0) (hb : zc9 E.now op q = true) (hn : -255 ≤ n ∧ n ≤ 255) (hm : -255 ≤ m ∧ m ≤ 255) (hp : op ≠ 10 → op ≠ 24 → 0 ≤ n ∧ 0 ≤ m) :
 Calls Tryz.prog 53 #[.agg (doR b x), .agg (exR op n m who a k c), .int .i64 (q : Int)] w fun r w' => r = .returned (.tuple #[]) ∧ EPost w b own (E.toOb op n m q) w' := by
 have hst : E.state = E.now := by unfold Em.state; rw [if_neg (by rw [he]; simp)]
 have hRt := (hQ.err he).right
 obtain ⟨hq, h8⟩ := zi4 hb
 have HMo := Lib.hid (hQ.mo hd)
 have HSt := Lib.hid (fun W (g : Grow w W) => by have := zcl W b own E (R.grow g) (hQ.mo hd); rw [hst] at this; exact this)
 have hm400 := hRt.many
 have h7 := hRt.o7 hq
 have h6 : 0 ≤ gt (rowAt E.now.objs q) 6 ∧ gt (rowAt E.now.objs q) 6 ≤ 1073741824 := hRt.num hq (f := 6) (by decide)
 have hO : Hid (∀ (w1 : World) (nS : Ext) (V : SV), RepSt (w1.plus nS) V E.now → (∀ k, V.uses k → w1.heap.size ≤ k ∧ k < (w1.plus nS).heap.size) → V.objs.n = E.now.objs.length ∧ V.objs.b < w1.heap.size + nS.objs.size ∧ ¬ V.objs.b < w1.heap.size ∧ V.objs.o + q * 18 + 18 ≤ (zfd w1 nS V.objs.b).size ∧ sub (zfd w1 nS V.objs.b) (V.objs.o + q * 18) 18 = cellsOf (rowAt E.now.objs q) ∧ (rowAt E.now.objs q).length = 18) := by
  intro w1 nS V hR hU
  obtain ⟨hob, how, hosz, hosub, _⟩ := hR.objs.at (by omega) q hq
  have hge : ¬ V.objs.b < w1.heap.size := by have := (hU _ (Or.inl (Sl.owns_b (by rw [hR.objs.len]; omega)))).1; omega
  rw [ze0, if_neg hge] at hosz hosub
  rw [zac] at hob
  exact ⟨hR.objs.len, hob, hge, hosz, hosub, how⟩
 have HR := Lib.hid R
 have HGL := Lib.hid GL
 have HQ := Lib.hid hQ
 have hqS : (q : Int) < E.now.objs.length := by omega
 have hadd : Hid (∀ (W : World) (own1 : Nat → Prop) (E1 : Em), Emt W b own1 E1 → Oq d E1 → (E1.err = 0 → q < E1.now.objs.length) → ∀ (f : Nat) (more : Int), (f = 6 ∨ f = 7 ∨ f = 8 ∨ f = 9) → (-1099511627776 ≤ more ∧ more ≤ 1099511627776) → Calls Tryz.prog 84 #[.agg (doR b x), .int .i64 (q : Int), .int .i64 (f : Int), .int .i64 more] W fun r w' => r = .returned (.tuple #[]) ∧ EPost W b own1 (E1.add q f more) w') := fun W own1 E1 R1 Q1 hl f more hf hmo =>
  z4m W b own1 E1 R1 (Q1.mo hd) x q f more (by omega) hl (fun e1 => by
   have hr := (Q1.err e1).right
   have o7 := hr.o7 (hl e1)
   have o6 : 0 ≤ gt (rowAt E1.now.objs q) 6 ∧ gt (rowAt E1.now.objs q) 6 ≤ 1073741824 := hr.num (hl e1) (f := 6) (by decide)
   rcases hf with rfl | rfl | rfl | rfl <;> omega) hmo
 clear R hQ GL
 by_cases e1 : op = 1
 · subst e1
   have hE2 : E.toOb 1 n m q = E.add q 6 n := rfl
   rw [hE2]
   have H := Lib.hid (fun W (g : Grow w W) => hadd.out W own E (HR.out.grow g) HQ.out (fun _ => hq) 6 n (by omega) (by omega))
   clear hE2
   clear h7 h6 HR HGL HQ HMo hadd hRt hst hb h8 hn hm hp he
   generalize E.add q 6 n = E2 at *
   generalize E.now = S at *
   generalize rowAt S.objs q = row at *
   go_enter Tryz.func53, Tryz.ntmps53
   go_wp2_with fail
   refine (HSt.out _ grI).mono ?_
   rintro e' w2 ⟨V, rfl, hR2, hU2, nS, rfl⟩
   obtain ⟨o1, o2, o3, o4, o5, o6⟩ := hO.out _ _ V hR2 hU2
   have hge2 := o3
   simp only [zaa] at hge2 o2
   clear hU2 hR2 hO o3
   go_wp2_with fail
   refine (H.out _ grI).mono ?_
   rintro e' w4 ⟨rfl, hE⟩
   have HE := Lib.hid hE
   clear hE
   go_wp2_with fail
   go_end0
   exact ⟨rfl, EPost.low grI HE.out⟩
 by_cases e6 : op = 6
 · subst e6
   have hE2 : E.toOb 6 n m q = E.put q 4 := rfl
   rw [hE2]
   have H := Lib.hid (fun W (g : Grow w W) => ze3 W b own E (HR.out.grow g) HMo.out (HGL.out.grow g) q 4)
   clear hE2
   clear h7 h6 HR HGL HQ HMo hadd hRt hst hb h8 hn hm hp he
   generalize E.put q 4 = E2 at *
   generalize E.now = S at *
   generalize rowAt S.objs q = row at *
   go_enter Tryz.func53, Tryz.ntmps53
   go_wp2_with fail
   refine (HSt.out _ grI).mono ?_
   rintro e' w2 ⟨V, rfl, hR2, hU2, nS, rfl⟩
   obtain ⟨o1, o2, o3, o4, o5, o6⟩ := hO.out _ _ V hR2 hU2
   have hge2 := o3
   simp only [zaa] at hge2 o2
   clear hU2 hR2 hO o3
   go_wp2_with fail
   refine (H.out _ grI).mono ?_
   rintro e' w4 ⟨rfl, hE⟩
   have HE := Lib.hid hE
   clear hE
   go_wp2_with fail
   go_end0
   exact ⟨rfl, EPost.low grI HE.out⟩
 by_cases e9 : op = 9
 · subst e9
   have hE2 : E.toOb 9 n m q = E.put q 4 := rfl
   rw [hE2]
   have H := Lib.hid (fun W (g : Grow w W) => ze3 W b own E (HR.out.grow g) HMo.out (HGL.out.grow g) q 4)
   clear hE2
   clear h7 h6 HR HGL HQ HMo hadd hRt hst hb h8 hn hm hp he
   generalize E.put q 4 = E2 at *
   generalize E.now = S at *
   generalize rowAt S.objs q = row at *
   go_enter Tryz.func53, Tryz.ntmps53
   go_wp2_with fail
   refine (HSt.out _ grI).mono ?_
   rintro e' w2 ⟨V, rfl, hR2, hU2, nS, rfl⟩
   obtain ⟨o1, o2, o3, o4, o5, o6⟩ := hO.out _ _ V hR2 hU2
   have hge2 := o3
   simp only [zaa] at hge2 o2
   clear hU2 hR2 hO o3
   go_wp2_with fail
   refine (H.out _ grI).mono ?_
   rintro e' w4 ⟨rfl, hE⟩
   have HE := Lib.hid hE
   clear hE
   go_wp2_with fail
   go_end0
   exact ⟨rfl, EPost.low grI HE.out⟩
 by_cases e7 : op = 7
 · subst e7
   have hE2 : E.toOb 7 n m q = E.put q 2 := rfl
   rw [hE2]
   have H := Lib.hid (fun W (g : Grow w W) => ze3 W b own E (HR.out.grow g) HMo.out (HGL.out.grow g) q 2)
   clear hE2
   clear h7 h6 HR HGL HQ HMo hadd hRt hst hb h8 hn hm hp he
   generalize E.put q 2 = E2 at *
   generalize E.now = S at *
   generalize rowAt S.objs q = row at *
   go_enter Tryz.func53, Tryz.ntmps53
   go_wp2_with fail
   refine (HSt.out _ grI).mono ?_
   rintro e' w2 ⟨V, rfl, hR2, hU2, nS, rfl⟩
   obtain ⟨o1, o2, o3, o4, o5, o6⟩ := hO.out _ _ V hR2 hU2
   have hge2 := o3
   simp only [zaa] at hge2 o2
   clear hU2 hR2 hO o3
   go_wp2_with fail
   refine (H.out _ grI).mono ?_
   rintro e' w4 ⟨rfl, hE⟩
   have HE := Lib.hid hE
   clear hE
   go_wp2_with fail
   go_end0
   exact ⟨rfl, EPost.low grI HE.out⟩
 by_cases e8 : op = 8
 · subst e8
   have hE2 : E.toOb 8 n m q = E.put q 6 := rfl
   rw [hE2]
   have H := Lib.hid (fun W (g : Grow w W) => ze3 W b own E (HR.out.grow g) HMo.out (HGL.out.grow g) q 6)
   clear hE2
   clear h7 h6 HR HGL HQ HMo hadd hRt hst hb h8 hn hm hp he
   generalize E.put q 6 = E2 at *
   generalize E.now = S at *
   generalize rowAt S.objs q = row at *
   go_enter Tryz.func53, Tryz.ntmps53
   go_wp2_with fail
   refine (HSt.out _ grI).mono ?_
   rintro e' w2 ⟨V, rfl, hR2, hU2, nS, rfl⟩
   obtain ⟨o1, o2, o3, o4, o5, o6⟩ := hO.out _ _ V hR2 hU2
   have hge2 := o3
   simp only [zaa] at hge2 o2
   clear hU2 hR2 hO o3
   go_wp2_with fail
   refine (H.out _ grI).mono ?_
   rintro e' w4 ⟨rfl, hE⟩
   have HE := Lib.hid hE
   clear hE
   go_wp2_with fail
   go_end0
   exact ⟨rfl, EPost.low grI HE.out⟩
 by_cases e10 : op = 10
 · subst e10
   have hE2 : E.toOb 10 n m q = (E.add q 8 n).add q 9 m := rfl
   rw [hE2]
   have H := Lib.hid (fun W (g : Grow w W) => hadd.out W own E (HR.out.grow g) HQ.out (fun _ => hq) 8 n (by omega) (by omega))
   have hJ1 : Jv d (fun _ => True) (E.add q 8 n) := Jv.add (M := True) (Q := fun _ => True) (by refine ⟨?_, ?_, ?_, ?_⟩ <;> intros <;> trivial) ⟨HQ.out, Or.inr trivial⟩ q 8 n (fun _ => ⟨hq, h8 (by decide)⟩) (by omega)
   have hst1 := zgt (P := fun _ => True) ⟨HQ.out, Or.inr trivial⟩ q 8 n (by omega) (fun _ => ⟨hq, h8 (by decide)⟩)
   have H2 := Lib.hid (fun W own1 (R1 : Emt W b own1 (E.add q 8 n)) => hadd.out W own1 _ R1 hJ1.1 (fun e1 => (hst1 e1).1) 9 m (by omega) (by omega))
   have HR0 := HR
   clear hE2 hJ1 hst1 h7 h6 HR HGL HQ HMo hadd hRt hst hb h8 hp he
   generalize (E.add q 8 n).add q 9 m = E2 at *
   generalize E.add q 8 n = E1 at *
   generalize E.now = S at *
   generalize rowAt S.objs q = row at *
   go_enter Tryz.func53, Tryz.ntmps53
   go_wp2_with fail
   refine (HSt.out _ grI).mono ?_
   rintro e' w2 ⟨V, rfl, hR2, hU2, nS, rfl⟩
   obtain ⟨o1, o2, o3, o4, o5, o6⟩ := hO.out _ _ V hR2 hU2
   have hge2 := o3
   simp only [zaa] at hge2 o2
   clear hU2 hR2 hO o3
   go_wp2_with fail
   refine (H.out _ grI).mono ?_
   rintro e' w4 ⟨rfl, hE⟩
   have hb0 : Boxd w4 w.heap.size (doR b x) := by
    obtain ⟨o, _, K, _⟩ := hE
    refine Boxd.kept (own := own) ?_ K (fun h => by have := HR0.out.lt _ h; omega)
    exact (Boxd.new w (doR b x) 70).grow grI
   have hb1 : Boxd w4 (w.heap.size + 1) (exR 10 n m who a k c) := by
    obtain ⟨o, _, K, _⟩ := hE
    refine Boxd.kept (own := own) ?_ K (fun h => by have := HR0.out.lt _ h; omega)
    have := Boxd.new (w.alloc (.cells (doR b x) 70)) (exR 10 n m who a k c) 32
    rw [zaa] at this
    exact this.grow grI
   obtain ⟨own1, T1⟩ := (Turn.first HR0.out).step grI hE
   have HP2 := Lib.hid (fun W (g : Grow w4 W) => H2.out W own1 (T1.em.grow g))
   have HT1 := Lib.hid T1
   obtain ⟨x1, x2, x3⟩ := hb0
   obtain ⟨y1, y2, y3⟩ := hb1
   clear hE T1 H H2
   go_wp2_with fail
   refine (HP2.out _ grI).mono ?_
   rintro e' w5 ⟨rfl, hE⟩
   obtain ⟨own2, T2⟩ := HT1.out.step grI hE
   have HT2 := Lib.hid T2
   clear hE T2
   go_wp2_with fail
   go_end0
   exact ⟨rfl, HT2.out.post (Grow.refl _)⟩
 by_cases e11 : op = 11
 · subst e11
   have hE2 : E.toOb 11 n m q = E.add q 7 n := rfl
   rw [hE2]
   have H := Lib.hid (fun W (g : Grow w W) => hadd.out W own E (HR.out.grow g) HQ.out (fun _ => hq) 7 n (by omega) (by omega))
   clear hE2
   clear h7 h6 HR HGL HQ HMo hadd hRt hst hb h8 hn hm hp he
   generalize E.add q 7 n = E2 at *
   generalize E.now = S at *
   generalize rowAt S.objs q = row at *
   go_enter Tryz.func53, Tryz.ntmps53
   go_wp2_with fail
   refine (HSt.out _ grI).mono ?_
   rintro e' w2 ⟨V, rfl, hR2, hU2, nS, rfl⟩
   obtain ⟨o1, o2, o3, o4, o5, o6⟩ := hO.out _ _ V hR2 hU2
   have hge2 := o3
   simp only [zaa] at hge2 o2
   clear hU2 hR2 hO o3
   go_wp2_with fail
   refine (H.out _ grI).mono ?_
   rintro e' w4 ⟨rfl, hE⟩
   have HE := Lib.hid hE
   clear hE
   go_wp2_with fail
   go_end0
   exact ⟨rfl, EPost.low grI HE.out⟩
 by_cases e12 : op = 12
 · subst e12
   have hE2 : E.toOb 12 n m q = E.setObj q 4 1 := rfl
   rw [hE2]
   have H := Lib.hid (fun W (g : Grow w W) => zhb W b own E (HR.out.grow g) HMo.out q 4 1)
   clear hE2
   clear h7 h6 HR HGL HQ HMo hadd hRt hst hb h8 hn hm hp he
   generalize E.setObj q 4 1 = E2 at *
   generalize E.now = S at *
   generalize rowAt S.objs q = row at *
   go_enter Tryz.func53, Tryz.ntmps53
   go_wp2_with fail
   refine (HSt.out _ grI).mono ?_
   rintro e' w2 ⟨V, rfl, hR2, hU2, nS, rfl⟩
   obtain ⟨o1, o2, o3, o4, o5, o6⟩ := hO.out _ _ V hR2 hU2
   have hge2 := o3
   simp only [zaa] at hge2 o2
   clear hU2 hR2 hO o3
   go_wp2_with fail
   refine (H.out _ grI).mono ?_
   rintro e' w4 ⟨rfl, hE⟩
   have HE := Lib.hid hE
   clear hE
   go_wp2_with fail
   go_end0
   exact ⟨rfl, EPost.low grI HE.out⟩
 by_cases e13 : op = 13
 · subst e13
   have hE2 : E.toOb 13 n m q = E.setObj q 4 0 := rfl
   rw [hE2]
   have H := Lib.hid (fun W (g : Grow w W) => zhb W b own E (HR.out.grow g) HMo.out q 4 0)
   clear hE2
   clear h7 h6 HR HGL HQ HMo hadd hRt hst hb h8 hn hm hp he
   generalize E.setObj q 4 0 = E2 at *
   generalize E.now = S at *
   generalize rowAt S.objs q = row at *
   go_enter Tryz.func53, Tryz.ntmps53
   go_wp2_with fail
   refine (HSt.out _ grI).mono ?_
   rintro e' w2 ⟨V, rfl, hR2, hU2, nS, rfl⟩
   obtain ⟨o1, o2, o3, o4, o5, o6⟩ := hO.out _ _ V hR2 hU2
   have hge2 := o3
   simp only [zaa] at hge2 o2
   clear hU2 hR2 hO o3
   go_wp2_with fail
   refine (H.out _ grI).mono ?_
   rintro e' w4 ⟨rfl, hE⟩
   have HE := Lib.hid hE
   clear hE
   go_wp2_with fail
   go_end0
   exact ⟨rfl, EPost.low grI HE.out⟩
 by_cases e23 : op = 23
 · subst e23
   have hE2 : E.toOb 23 n m q = E.setObj q 10 (bits .or .i64 (gt (rowAt E.now.objs q) 10) n) := rfl
   rw [hE2]
   have H := Lib.hid (fun W (g : Grow w W) => zhb W b own E (HR.out.grow g) HMo.out q 10 (bits .or .i64 (gt (rowAt E.now.objs q) 10) n))
   clear hE2
   clear h7 h6 HR HGL HQ HMo hadd hRt hst hb h8 hn hm hp he
   generalize E.setObj q 10 (bits .or .i64 (gt (rowAt E.now.objs q) 10) n) = E2 at *
   generalize E.now = S at *
   generalize rowAt S.objs q = row at *
   go_enter Tryz.func53, Tryz.ntmps53
   go_wp2_with fail
   refine (HSt.out _ grI).mono ?_
   rintro e' w2 ⟨V, rfl, hR2, hU2, nS, rfl⟩
   obtain ⟨o1, o2, o3, o4, o5, o6⟩ := hO.out _ _ V hR2 hU2
   have hge2 := o3
   simp only [zaa] at hge2 o2
   clear hU2 hR2 hO o3
   go_wp2_with fail
   refine (H.out _ grI).mono ?_
   rintro e' w4 ⟨rfl, hE⟩
   have HE := Lib.hid hE
   clear hE
   go_wp2_with fail
   go_end0
   exact ⟨rfl, EPost.low grI HE.out⟩
 by_cases e25 : op = 25
 · subst e25
   have hE2 : E.toOb 25 n m q = E.setObj q 10 (bits .andNot .i64 (gt (rowAt E.now.objs q) 10) n) := rfl
   rw [hE2]
   have H := Lib.hid (fun W (g : Grow w W) => zhb W b own E (HR.out.grow g) HMo.out q 10 (bits .andNot .i64 (gt (rowAt E.now.objs q) 10) n))
   clear hE2
   clear h7 h6 HR HGL HQ HMo hadd hRt hst hb h8 hn hm hp he
   generalize E.setObj q 10 (bits .andNot .i64 (gt (rowAt E.now.objs q) 10) n) = E2 at *
   generalize E.now = S at *
   generalize rowAt S.objs q = row at *
   go_enter Tryz.func53, Tryz.ntmps53
   go_wp2_with fail
   refine (HSt.out _ grI).mono ?_
   rintro e' w2 ⟨V, rfl, hR2, hU2, nS, rfl⟩
   obtain ⟨o1, o2, o3, o4, o5, o6⟩ := hO.out _ _ V hR2 hU2
   have hge2 := o3
   simp only [zaa] at hge2 o2
   clear hU2 hR2 hO o3
   go_wp2_with fail
   refine (H.out _ grI).mono ?_
   rintro e' w4 ⟨rfl, hE⟩
   have HE := Lib.hid hE
   clear hE
   go_wp2_with fail
   go_end0
   exact ⟨rfl, EPost.low grI HE.out⟩
 by_cases e24 : op = 24
 · subst e24
   have hcB : zam E.now q = true := by
    unfold zc9 at hb
    rw [if_neg (by omega), if_neg (by decide), if_pos (by decide)] at hb
    exact hb
   have HOf := Lib.hid (fun W (V : SV) (g : Grow w W) (r : RepSt W V E.now) => by
    have h1 := HQ.out.rs (V := V) (HGL.out.base.grow g) (by rw [hst]; exact r)
    rw [hst] at h1
    have := yco E.now V W h1 q
    rw [ofV, if_pos hcB, Int.toNat_natCast] at this
    exact this)
   obtain ⟨⟨s0, s1⟩, s2, s3⟩ := z3f hRt hq
   have hsl : (shapeN E.now q).length = 3 := rfl
   clear hcB
   have hE2 : E.toOb 24 n m q = (E.add q 8 (n - gt (shapeN E.now q) 0)).add q 9 (m - gt (shapeN E.now q) 1) := rfl
   rw [hE2]
   have H := Lib.hid (fun W (g : Grow w W) => hadd.out W own E (HR.out.grow g) HQ.out (fun _ => hq) 8 (n - gt (shapeN E.now q) 0) (by omega) (by omega))
   have hJ1 : Jv d (fun _ => True) (E.add q 8 (n - gt (shapeN E.now q) 0)) := Jv.add (M := True) (Q := fun _ => True) (by refine ⟨?_, ?_, ?_, ?_⟩ <;> intros <;> trivial) ⟨HQ.out, Or.inr trivial⟩ q 8 (n - gt (shapeN E.now q) 0) (fun _ => ⟨hq, h8 (by decide)⟩) (by omega)
   have hst1 := zgt (P := fun _ => True) ⟨HQ.out, Or.inr trivial⟩ q 8 (n - gt (shapeN E.now q) 0) (by omega) (fun _ => ⟨hq, h8 (by decide)⟩)
   have H2 := Lib.hid (fun W own1 (R1 : Emt W b own1 (E.add q 8 (n - gt (shapeN E.now q) 0))) => hadd.out W own1 _ R1 hJ1.1 (fun e1 => (hst1 e1).1) 9 (m - gt (shapeN E.now q) 1) (by omega) (by omega))
   have HR0 := HR
   clear hE2 hJ1 hst1 h7 h6 HR HGL HQ HMo hadd hRt hst hb h8 hp he
   generalize (E.add q 8 (n - gt (shapeN E.now q) 0)).add q 9 (m - gt (shapeN E.now q) 1) = E2 at *
   generalize E.add q 8 (n - gt (shapeN E.now q) 0) = E1 at *
   generalize shapeN E.now q = sh at *
   generalize E.now = S at *
   generalize rowAt S.objs q = row at *
   go_enter Tryz.func53, Tryz.ntmps53
   go_wp2_with fail
   refine (HSt.out _ grI).mono ?_
   rintro e' w2 ⟨V, rfl, hR2, hU2, nS, rfl⟩
   obtain ⟨o1, o2, o3, o4, o5, o6⟩ := hO.out _ _ V hR2 hU2
   have hge2 := o3
   simp only [zaa] at hge2 o2
   clear hU2 hR2 hO o3
   go_wp2_with (first | (go_at_call 18; refine (HSt.out _ grI).mono ?_; rintro e' w3 ⟨V3, rfl, hR3, hU3, n3, rfl⟩; have HR3 := Lib.hid hR3; clear hR3 hU3) | (go_at_call 87; refine (HOf.out _ V3 grI (HR3.out.grow grI)).mono ?_; rintro e' w3 ⟨rfl, n4, rfl⟩))
   refine (H.out _ grI).mono ?_
   rintro e' w4 ⟨rfl, hE⟩
   have hb0 : Boxd w4 w.heap.size (doR b x) := by
    obtain ⟨o, _, K, _⟩ := hE
    refine Boxd.kept (own := own) ?_ K (fun h => by have := HR0.out.lt _ h; omega)
    exact (Boxd.new w (doR b x) 70).grow grI
   have hb1 : Boxd w4 (w.heap.size + 1) (exR 24 n m who a k c) := by
    obtain ⟨o, _, K, _⟩ := hE
    refine Boxd.kept (own := own) ?_ K (fun h => by have := HR0.out.lt _ h; omega)
    have := Boxd.new (w.alloc (.cells (doR b x) 70)) (exR 24 n m who a k c) 32
    rw [zaa] at this
    exact this.grow grI
   have hb2 : Boxd w4 (w.heap.size + 1 + 1 + nS.objs.size + 1 + (n3.and n4).objs.size) (cellsOf sh) := by
    obtain ⟨o, _, K, _⟩ := hE
    refine Boxd.kept (own := own) ?_ K (fun h => by have := HR0.out.lt _ h; omega)
    exact Boxd.new' (by simp only [zaa, zac])
   obtain ⟨z1, z2, z3⟩ := hb2
   obtain ⟨own1, T1⟩ := (Turn.first HR0.out).step grI hE
   have HP2 := Lib.hid (fun W (g : Grow w4 W) => H2.out W own1 (T1.em.grow g))
   have HT1 := Lib.hid T1
   obtain ⟨x1, x2, x3⟩ := hb0
   obtain ⟨y1, y2, y3⟩ := hb1
   clear hE T1 H H2
   go_wp2_with fail
   refine (HP2.out _ grI).mono ?_
   rintro e' w5 ⟨rfl, hE⟩
   obtain ⟨own2, T2⟩ := HT1.out.step grI hE
   have HT2 := Lib.hid T2
   clear hE T2
   go_wp2_with fail
   go_end0
   exact ⟨rfl, HT2.out.post (Grow.refl _)⟩
 · have hE2 : E.toOb op n m q = E := by unfold Em.toOb; rw [if_neg (by omega), if_neg (by omega), if_neg (by omega), if_neg (by omega), if_neg (by omega), if_neg (by omega), if_neg (by omega), if_neg (by omega), if_neg (by omega), if_neg (by omega), if_neg (by omega)]
   rw [hE2]
   have b1 : (op == 1) = false := by simpa using e1
   have b6 : (op == 6) = false := by simpa using e6
   have b9 : (op == 9) = false := by simpa using e9
   have b7 : (op == 7) = false := by simpa using e7
   have b8 : (op == 8) = false := by simpa using e8
   have b10 : (op == 10) = false := by simpa using e10
   have b11 : (op == 11) = false := by simpa using e11
   have b12 : (op == 12) = false := by simpa using e12
   have b13 : (op == 13) = false := by simpa using e13
   have b23 : (op == 23) = false := by simpa using e23
   have b25 : (op == 25) = false := by simpa using e25
   have b24 : (op == 24) = false := by simpa using e24
   have HR0 := HR
   clear hE2 e1 e6 e9 e7 e8 e10 e11 e12 e13 e23 e25 e24
   clear h7 h6 HR HGL HQ HMo hadd hRt hst hb h8 hn hm hp he
   generalize E.now = S at *
   generalize rowAt S.objs q = row at *
   go_enter Tryz.func53, Tryz.ntmps53
   go_wp2_with fail
   refine (HSt.out _ grI).mono ?_
   rintro e' w2 ⟨V, rfl, hR2, hU2, nS, rfl⟩
   obtain ⟨o1, o2, o3, o4, o5, o6⟩ := hO.out _ _ V hR2 hU2
   have hge2 := o3
   simp only [zaa] at hge2 o2
   clear hU2 hR2 hO o3
   go_wp2_with fail
   go_end0
   exact ⟨rfl, HR0.out.stay grI⟩
end Go.Proofs.YthfalocligkamaaGreatDoor
