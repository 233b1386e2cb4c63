/- The fixed fact of exec's laws, in memory. -/
import Derived.Test.YthfalocligkamaaGreatDoorMEf1
import Derived.Test.YthfalocligkamaaGreatDoorMEx13
namespace Go.Proofs.YthfalocligkamaaGreatDoor
open Go Go.RowKit Go.Shelf
def yh8 : List Int := [10, 0, 0, 8, 0, 0, 0, 0, 0, 0, 0, 0, 0, 0, 0, 0, 0, 0]
def yh9 : List Int := [14, 0, 0, 8, 0, 0, 0, 0, 0, 0, 0, 0, 0, 0, 0, 0, 0, 0]
@[go_sem ↓] theorem z9p (ρ : Operand → Value) (dst : Option Tmp) (parts : Array (Nat × Operand)) (ty : TypeId) (pos : String) (after : Array Edge) (guard : Option (Nat × Bool)) :
 execOp ρ { dst, op := .build 29 parts, type := ty, pos, after, guard } = za0 29 (parts.map fun (i, x) => (i, ρ x)) := rfl
@[go_sem] theorem yaq (w : World) : (za0 57 #[(0, .int .i64 10), (3, .int .i64 8)]).run Tryz.prog w = .ok (.value (.agg (cellsOf yh8))) w := by kernel_rfl
@[go_sem] theorem yar (w : World) : (za0 57 #[(0, .int .i64 14), (3, .int .i64 8)]).run Tryz.prog w = .ok (.value (.agg (cellsOf yh9))) w := by kernel_rfl
def d1Cells : List Int := [10, 0, 0, 8, 0, 0, 0, 0, 0, 0, 0, 0, 0, 0, 0, 0, 0, 0, 14, 0, 0, 8, 0, 0, 0, 0, 0, 0, 0, 0, 0, 0, 0, 0, 0, 0]
set_option maxRecDepth 100000 in
@[go_sem] theorem yd2 (w : World) : (zdh 22 2 #[(0, .agg (cellsOf yh8)), (1, .agg (cellsOf yh9))]).run Tryz.prog w
 = .ok (.value (.slice (some ⟨w.heap.size, 0, none⟩) 2 2)) (w.alloc (.cells (cellsOf d1Cells) 57)) := by kernel_rfl
set_option maxRecDepth 100000 in
@[go_sem] theorem yd3 (w : World) (b : Nat) : (za0 29 #[(0, .slice (some ⟨b, 0, none⟩) 2 2)]).run Tryz.prog w = .ok (.value (.agg (stA ⟨.mk b 0 2 2, fun _ => .nil⟩ fun _ => 0))) w := by kernel_rfl
def d1V0 (b : Nat) : SV := ⟨.mk b 0 2 2, fun _ => .nil⟩
def d1V (b : Nat) : SV := ⟨.mk b 0 2 2, upd (fun _ => .nil) 8 (.mk (b + 1 + 1) 0 2 2)⟩
@[go_sem] theorem ztp (w : World) (b o sb so n c : Nat) (h : (w.cell? ⟨b, o, none⟩).isSome = true) (hf : w.frozen? ⟨b, o, none⟩ = false) : (zaz 23 (.pointer (some ⟨b, o, none⟩)) (.slice (some ⟨sb, so, none⟩) n c)).run Tryz.prog w = .ok .skip (w.setCell ⟨b, o, none⟩ (.slice (some ⟨sb, so, none⟩) n c)) :=
 zcf w b o 23 (.mk sb so n c) (by kernel_rfl) h hf
@[go_sem] theorem yia (b : Nat) : (stA { objs := .mk b 0 2 2, list := fun _ => .nil } fun _ => 0).setIfInBounds 9 (.slice (some ⟨b + 1 + 1, 0, none⟩) 2 2) = stA (d1V b) fun _ => 0 :=
 zbq (d1V0 b) (fun _ => 0) 8 (.mk (b + 1 + 1) 0 2 2) (by omega)
theorem z5c : zgh d1S := fun i hi => by
 have hi : i < 2 := hi
 have : i = 0 ∨ i = 1 := by omega
 rcases this with rfl | rfl <;> rfl
theorem yas (w : World) : RepSt (((w.alloc (.cells (cellsOf d1Cells) 57)).alloc (.cells (stA (d1V w.heap.size) fun _ => 0) 29)).alloc (.cells (cellsOf [0, 1]) 3)) (d1V w.heap.size) d1S := by
 have hf : zea d1S.objs = d1Cells.map I := rfl
 have h1 : ∀ i, (((w.alloc (.cells (cellsOf d1Cells) 57)).alloc (.cells (stA (d1V w.heap.size) fun _ => 0) 29)).alloc (.cells (cellsOf [0, 1]) 3)).cell? ⟨w.heap.size, i, none⟩ = (cellsOf d1Cells)[i]? := fun i => by go_simp
 have hO : Cells (((w.alloc (.cells (cellsOf d1Cells) 57)).alloc (.cells (stA (d1V w.heap.size) fun _ => 0) 29)).alloc (.cells (cellsOf [0, 1]) 3)) (.mk w.heap.size 0 2 2) 18 (d1Cells.map I) := by
  refine ⟨(by simp [d1Cells, Sl.n]), (by show 2 ≤ 2; omega), fun j u hu => ?_⟩
  show World.cell? _ ⟨w.heap.size, 0 + j, none⟩ = some u
  rw [h1, Nat.zero_add, ← hu]
  simp [cellsOf]
 rw [← hf] at hO
 refine ⟨hO.rows (by omega) z5c, fun z hz => ?_⟩
 by_cases h8 : z = 8
 · subst h8
   have h1 : ∀ i, (((w.alloc (.cells (cellsOf d1Cells) 57)).alloc (.cells (stA (d1V w.heap.size) fun _ => 0) 29)).alloc (.cells (cellsOf [0, 1]) 3)).cell? ⟨w.heap.size + 1 + 1, i, none⟩ = (cellsOf [0, 1])[i]? := fun i => by go_simp
   exact ⟨rfl, Nat.le_refl _, fun i hi => by
    show World.cell? _ ⟨w.heap.size + 1 + 1, 0 + i, none⟩ = _
    rw [h1, Nat.zero_add]
    exact za5 _ _ hi⟩
 · have e1 : (d1V w.heap.size).list z = .nil := by simp [d1V, upd, h8]
   have e2 : d1S.list z = [] := by simp [d1S, upd, h8]
   rw [e1, e2]; exact Ints.nil _
theorem z0t : Small d1S := ⟨by decide, fun z hz => by simp only [d1S, upd]; (repeat' split) <;> simp⟩
@[go_sem] theorem z24 (w : World) (p n q : Int) : (za0 32 #[(0, .int .i64 p), (1, .int .i64 n), (3, .int .i64 q)]).run Tryz.prog w = .ok (.value (.agg (exR p n 0 q none 0 0))) w := by kernel_rfl
@[go_sem] theorem z8a (w : World) (op n m who : Int) (k c : Nat) : (zdh 30 1 #[(0, .agg (exR op n m who none k c))]).run Tryz.prog w = .ok (.value (.slice (some ⟨w.heap.size, 0, none⟩) 1 1)) (w.alloc (.cells (exR op n m who none k c) 32)) := by kernel_rfl
@[go_sem] theorem z23 (w : World) (p : Int) (b o n c : Nat) : (za0 32 #[(0, .int .i64 p), (4, .slice (some ⟨b, o, none⟩) n c)]).run Tryz.prog w = .ok (.value (.agg (exR p 0 0 0 (some ⟨b, o, none⟩) n c))) w := by kernel_rfl
@[go_sem ↓] theorem z9o (ρ : Operand → Value) (dst : Option Tmp) (parts : Array (Nat × Operand)) (ty : TypeId) (pos : String) (after : Array Edge) (guard : Option (Nat × Bool)) :
 execOp ρ { dst, op := .build 39 parts, type := ty, pos, after, guard } = za0 39 (parts.map fun (i, x) => (i, ρ x)) := rfl
@[go_sem] theorem zzr (w : World) : (za0 39 #[]).run Tryz.prog w = .ok (.value (.agg (ctR ⟨0, 0, 0, 0⟩))) w := by kernel_rfl
theorem ygj {w : World} {z : Nat} (B : Boxd w z (exR 1 2 0 2 none 0 0)) : (d1X (some ⟨z, 0, none⟩) 1).In w (fun k => k = z) := by
 obtain ⟨_, h, _⟩ := B
 refine .mk (Or.inr ⟨z, 0, rfl, rfl, ⟨rfl, Nat.le_refl _, fun x hx => ?_, fun i j x hx hj => ?_⟩⟩) (fun f hf => ?_)
 · rw [List.mem_singleton.1 hx]; exact z03 _ _ _ _ _ _ _
 · show World.cell? _ ⟨z, 0 + i * 5 + j, none⟩ = _
   have hi : i < 1 := (List.getElem?_eq_some_iff.1 hx).1
   obtain rfl : i = 0 := by omega
   have hx2 : x = exR 1 2 0 2 none 0 0 := by have h1 := hx.symm; simp at h1; exact h1
   subst hx2
   rw [h]; congr 1; omega
 · rw [List.mem_singleton.1 hf]
   exact .mk (Or.inl rfl) (fun f hf => by cases hf)
theorem z6r (a : Option Addr) (c : Nat) : (d1X a c).Ok := Eff.ok_of _ 0 1 (show (d1X none 0).chk 0 1 = 0 by decide +kernel)
theorem ygi (a : Option Addr) (c : Nat) : yae (d1X a c) := zy8 0 0 0 a c _ (z6r a c) (fun e he => by
 rw [List.mem_singleton.1 he]
 exact zy9 1 2 0 2 none 0 [] (by have := z6r none 0; cases this with | mk _ _ _ _ _ _ _ _ hs => exact hs _ (by simp)) (by decide) (by decide) (by decide))
theorem zko {w : World} {b : Nat} {own ownk : Nat → Prop} {E : Em} {wk : World} {q : Nat} {cs : Array Value} (hlt : ∀ k, own k → k < w.heap.size) (hq : w.heap.size ≤ q) {w0 : World} (h : Boxd w0 q cs) (T : Turn w0 b own E wk ownk) : Boxd wk q cs :=
 h.kept T.kept (fun h => by have := hlt _ h; omega)
def d1F3 : Em := (d1X none 0).run ⟨0, 0, 0, 0⟩ d1E
theorem yat : d1F3.err = 0 ∧ d1F3.now.objs.length = 2 ∧ gt (rowAt d1F3.now.objs 0) 6 = 2 ∧ gt (rowAt d1F3.now.objs 1) 6 = 2 := by decide +kernel
set_option maxRecDepth 100000 in
set_option maxHeartbeats 4000000 in
theorem ydw (w : World) (b : Nat) (own : Nat → Prop) (R : Emt w b own d1E) (hQ : Oq [] d1E) (GL : GlobE w own) (z : Nat) (B : Boxd w z (exR 1 2 0 2 none 0 0)) (hzo : ¬ own z) :
 Calls Tryz.prog 8 #[.pointer (some ⟨b, 0, none⟩), .agg (exR 20 0 0 0 (some ⟨z, 0, none⟩) 1 1), .agg (ctR ⟨0, 0, 0, 0⟩)] w fun r w' => r = .returned (.tuple #[]) ∧ EPost w b own d1F3 w' := by
 have HGW : Hid (Grow w ((w.alloc (.cells (exR 20 0 0 0 (some ⟨z, 0, none⟩) 1 1) 32)).alloc (.cells (ctR ⟨0, 0, 0, 0⟩) 39))) := grI
 have HEr := Lib.hid (fun W (g : Grow ((w.alloc (.cells (exR 20 0 0 0 (some ⟨z, 0, none⟩) 1 1) 32)).alloc (.cells (ctR ⟨0, 0, 0, 0⟩) 39)) W) => by have := zas W b own d1E (R.grow (HGW.out.trans g)); rw [show d1E.err = 0 from rfl, za4] at this; exact this)
 have HC := Lib.hid (fun W (g : Grow ((w.alloc (.cells (exR 20 0 0 0 (some ⟨z, 0, none⟩) 1 1) 32)).alloc (.cells (ctR ⟨0, 0, 0, 0⟩) 39)) W) => by obtain ⟨a1, a2, a3⟩ := B.grow (HGW.out.trans g); exact zv0 W z a3 a1 a2)
 have HF := Lib.hid (fun W (g : Grow ((w.alloc (.cells (exR 20 0 0 0 (some ⟨z, 0, none⟩) 1 1) 32)).alloc (.cells (ctR ⟨0, 0, 0, 0⟩) 39)) W) => by have := ze2 W b own d1E (R.grow (HGW.out.trans g)) 0; rw [za4, z04 (show d1E.err = 0 from rfl)] at this; exact this)
 have HXP := Lib.hid (fun W => zgr W 0)
 rw [decide_eq_true (Or.inl rfl)] at HXP
 have HT := Lib.hid (Turn.first (R.grow HGW.out))
 have hlt : ∀ k, own k → k < w.heap.size := R.lt
 have HB0 : Hid (∀ E2 w2 own2, Turn ((w.alloc (.cells (exR 20 0 0 0 (some ⟨z, 0, none⟩) 1 1) 32)).alloc (.cells (ctR ⟨0, 0, 0, 0⟩) 39)) b own E2 w2 own2 → Boxd w2 w.heap.size (exR 20 0 0 0 (some ⟨z, 0, none⟩) 1 1)) := fun E2 w2 own2 T => zko hlt (Nat.le_refl _) ((Boxd.new w _ 32).grow grI) T
 have HB1 : Hid (∀ E2 w2 own2, Turn ((w.alloc (.cells (exR 20 0 0 0 (some ⟨z, 0, none⟩) 1 1) 32)).alloc (.cells (ctR ⟨0, 0, 0, 0⟩) 39)) b own E2 w2 own2 → Boxd w2 (w.heap.size + 1) (ctR ⟨0, 0, 0, 0⟩)) := fun E2 w2 own2 T => zko hlt (by omega) (Boxd.new' (by rw [zaa])) T
 have hd3 : (d1X (some ⟨z, 0, none⟩) 1).run ⟨0, 0, 0, 0⟩ d1E = d1F3 := rfl
 have HD : Hid (∀ w2 own2, Turn ((w.alloc (.cells (exR 20 0 0 0 (some ⟨z, 0, none⟩) 1 1) 32)).alloc (.cells (ctR ⟨0, 0, 0, 0⟩) 39)) b own d1E w2 own2 → ∀ W, Grow w2 W → Calls Tryz.prog 30 #[.agg (doR b ⟨0, 0, 0, 0⟩), .agg (exR 20 0 0 0 (some ⟨z, 0, none⟩) 1 1)] W fun r w' => r = .returned (.tuple #[]) ∧ EPost ((w.alloc (.cells (exR 20 0 0 0 (some ⟨z, 0, none⟩) 1 1) 32)).alloc (.cells (ctR ⟨0, 0, 0, 0⟩) 39)) b own d1F3 w') := fun w2 own2 T W g => by
  obtain ⟨_, _, hz⟩ := id B
  have h := ygi (some ⟨z, 0, none⟩) 1 W b own2 d1E (T.em.grow g) [] hQ (by simp) ((T.glob (GL.grow HGW.out)).grow g) ⟨0, 0, 0, 0⟩ (Or.inl rfl) (by decide) (fun k => k = z)
   (ygj (((B.grow HGW.out).kept T.kept hzo).grow g)) (fun k hk (e : k = z) => by
     subst e
     rcases T.own k hk with h | h
     · exact hzo h
     · have := HGW.out.size; omega) (fun k (e : k = z) => by have := HGW.out.size; have := T.kept.size; have := g.size; omega)
  rw [hd3] at h
  refine h.mono ?_
  rintro r w' ⟨rfl, hE⟩
  obtain ⟨own2, T2⟩ := T.step g hE
  exact ⟨rfl, T2.post (Grow.refl _)⟩
 clear hd3
 generalize d1F3 = E3 at *
 clear R hQ GL B hzo hlt
 go_enter Tryz.func8, Tryz.ntmps8
 go_wp2_with (first | (go_at_call 17; refine (HEr.out _ grI).mono ?_; rintro e' w' ⟨rfl, nx, rfl⟩) | (go_at_call 21; refine (HC.out _ grI).mono ?_; rintro e' w' ⟨rfl, nx, rfl⟩))
 refine (HF.out _ grI).mono ?_
 rintro e' w1 ⟨rfl, hE⟩
 obtain ⟨own1, T1⟩ := HT.out.step grI hE
 clear HF HT hE
 obtain ⟨x11, x12, x13⟩ := HB0.out _ _ _ T1
 obtain ⟨y11, y12, y13⟩ := HB1.out _ _ _ T1
 have HDo := Lib.hid (fun W (g : Grow w1 W) => HD.out _ _ T1 W g)
 clear T1 HC HEr HD HB0 HB1
 go_wp2_with (go_at_call 27; refine (HXP.out _).mono ?_; rintro e' w' ⟨rfl, nx, rfl⟩)
 refine (HDo.out _ grI).mono ?_
 rintro e' w9 ⟨rfl, hE⟩
 have HE := Lib.hid hE
 clear hE
 go_wp2_with fail
 go_end0
 exact ⟨rfl, (HE.out).low HGW.out⟩
set_option maxRecDepth 100000 in
set_option maxHeartbeats 4000000 in
theorem zmq (w : World) (GL : GlobE w (fun k => w.heap.size ≤ k)) : Calls Tryz.prog 6 #[] w fun e w' => e = .returned (.bool true) ∧ Grow w w' := by
 obtain ⟨hp0, hp1, hp2, hp3⟩ := yat
 have HRep := Lib.hid (yas w)
 have HNew := Lib.hid (fun W (r : RepSt W (d1V w.heap.size) d1S) (g : Grow w W) => by have := z7y d1S (d1V w.heap.size) W r z0t (GL.base.grow g) .nil [] (Ints.nil W) (by simp); rw [z5b] at this; exact this)
 have hnum : d1S.num = fun _ => 0 := rfl
 rw [hnum] at HNew
 have HGL := Lib.hid GL
 have hQ1 : Oq [] d1E := by have := ycl z5c []; rw [z5b] at this; exact this
 have HQ1 := Lib.hid hQ1
 have hQ2 : Oq [] d1F3 := (Jv.run (z5m 0) (fun _ _ => trivial) (d1X none 0) (z6r none 0) (fun _ => trivial) (fun _ => trivial) ⟨0, 0, 0, 0⟩ ⟨hQ1, Or.inr (Nat.zero_le _)⟩).1
 have HQ2 := Lib.hid hQ2
 have HDx := Lib.hid (fun W b own R GL z B h => ydw W b own R hQ1 GL z B h)
 generalize d1F3 = E2 at *
 clear GL hnum hQ1 hQ2
 go_enter Tryz.func6, Tryz.ntmps6
 go_wp2_with (go_at_call 16; refine (HNew.out _ HRep.out grI).mono ?_; rintro e' w1 ⟨b, own, rfl, hem, hown, nN, rfl⟩)
 have hg1 : Grow w ((((w.alloc (.cells (cellsOf d1Cells) 57)).alloc (.cells (stA (d1V w.heap.size) fun _ => 0) 29)).alloc (.cells (cellsOf [0, 1]) 3)).plus nN) := grI
 have hown1 : ∀ k, own k → w.heap.size ≤ k := fun k hk => by have := (hown k hk).1; simp only [zaa] at this; omega
 obtain ⟨z, hz⟩ : ∃ z, z = w.heap.size + 1 + 1 + 1 + nN.objs.size := ⟨_, rfl⟩
 have hzw : ((((w.alloc (.cells (cellsOf d1Cells) 57)).alloc (.cells (stA (d1V w.heap.size) fun _ => 0) 29)).alloc (.cells (cellsOf [0, 1]) 3)).plus nN).heap.size = z := by rw [hz]; simp only [zac, zaa]
 rw [← hz]
 clear hz hown HNew HRep
 generalize (((w.alloc (.cells (cellsOf d1Cells) 57)).alloc (.cells (stA (d1V w.heap.size) fun _ => 0) 29)).alloc (.cells (cellsOf [0, 1]) 3)).plus nN = W1 at *
 have hlt := hem.lt
 have hgl1 : GlobE W1 own := HGL.out.kept (hg1.kept _) (fun k hk => Or.inl (hown1 k hk))
 have hDo := HDx.out (W1.alloc (.cells (exR 1 2 0 2 none 0 0) 32)) b own (hem.grow grI) (hgl1.grow grI) z (Boxd.new' hzw.symm) (fun h => by have := hlt z h; omega)
 refine hDo.mono ?_
 clear hDo hgl1 HDx
 rintro e' w2 ⟨rfl, hE⟩
 obtain ⟨own2, T2⟩ := (Turn.first hem).step grI hE
 have HSt := Lib.hid (fun W (g : Grow w2 W) => zcl W b own2 E2 (T2.em.grow g) (HQ2.out.mo (by simp)))
 have HEr := Lib.hid (fun W (g : Grow w2 W) => by have := zas W b own2 E2 (T2.em.grow g); rw [hp0, za4] at this; exact this)
 have HG3 := Lib.hid (T2.kept.grow_of hg1 hown1 : Grow w w2)
 have hs2 : E2.state = E2.now := by unfold Em.state; rw [if_neg (by rw [hp0]; simp)]
 rw [hs2] at HSt
 clear hE T2 hem hown1 hg1 hp0 HQ2 HQ1 hs2 hlt hzw HGL
 generalize E2.now = S2 at *
 go_wp2_with fail
 refine (HSt.out _ (Grow.refl _)).mono ?_
 rintro e' w' ⟨V1, rfl, hR', hu, nS, rfl⟩
 have hon : V1.objs.n = 2 := by rw [hR'.objs.len, hp1]
 obtain ⟨ob, ow, osz, osub, oc⟩ := hR'.objs.at (by omega) 0 (by omega)
 obtain ⟨pb, pw, psz, psub, pc⟩ := hR'.objs.at (by omega) 1 (by omega)
 have o6 := oc 6 (by decide)
 have p6 := pc 6 (by decide)
 rw [hp2] at o6
 rw [hp3] at p6
 simp only [Nat.zero_mul, Nat.add_zero, Nat.one_mul] at o6 p6 osz psz
 simp only [zac] at ob pb
 clear oc pc osub psub ow pw hR' hu
 go_wp2_with (go_at_call 17; refine (HEr.out _ (Grow.trans ⟨nS, rfl⟩ grI)).mono ?_; rintro e' w' ⟨rfl, nx, rfl⟩)
 go_ret
 exact ⟨by rfl, Grow.trans HG3.out grI⟩
end Go.Proofs.YthfalocligkamaaGreatDoor
