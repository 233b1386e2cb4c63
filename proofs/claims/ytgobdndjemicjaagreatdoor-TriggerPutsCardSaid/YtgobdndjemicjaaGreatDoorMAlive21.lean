/- The fixed fact of emit's laws. -/
import Derived.Test.YtgobdndjemicjaaGreatDoorMEm9
import Derived.Test.YtgobdndjemicjaaGreatDoorMIs19
import Derived.Test.YtgobdndjemicjaaGreatDoorMEmNew
import Derived.Test.YtgobdndjemicjaaGreatDoorMTrG
import Derived.Test.YtgobdndjemicjaaGreatDoorMSrtI
namespace Go.Proofs.YtgobdndjemicjaaGreatDoor
open Go Go.RowKit Go.Shelf
def a9R : List Int := [10, 0, 0, 2, 0, 0, 0, 0, 0, 0, 0, 0, 0, 0, 0, 0, 0, 0]
@[go_sem ↓] theorem z9z (ρ : Operand → Value) (dst : Option Tmp) (parts : Array (Nat × Operand)) (ty : TypeId) (pos : String) (after : Array Edge) (guard : Option (Nat × Bool)) :
 execOp ρ { dst, op := .build 29 parts, type := ty, pos, after, guard } = za2 29 (parts.map fun (i, x) => (i, ρ x)) := rfl
@[go_sem] theorem yau (w : World) : (za2 77 #[(0, .int .i64 10), (3, .int .i64 2)]).run Tryz.prog w = .ok (.value (.agg (cellsOf a9R))) w := by kernel_rfl
@[go_sem] theorem yea (w : World) (b : Nat) : (za2 29 #[(0, .slice (some ⟨b, 0, none⟩) 1 1)]).run Tryz.prog w = .ok (.value (.agg (stA ⟨.mk b 0 1 1, fun _ => .nil⟩ fun _ => 0))) w := by kernel_rfl
@[go_sem] theorem yhb : a9R.length = 18 := by decide
def a9V0 (b : Nat) : SV := ⟨.mk b 0 1 1, fun _ => .nil⟩
def a9V (b : Nat) : SV := ⟨.mk b 0 1 1, upd (fun _ => .nil) 2 (.mk (b + 1 + 1) 0 1 1)⟩
@[go_sem] theorem zuz (w : World) (b o sb so n c : Nat) (h : (w.cell? ⟨b, o, none⟩).isSome = true) (hf : w.frozen? ⟨b, o, none⟩ = false) : (zas 23 (.pointer (some ⟨b, o, none⟩)) (.slice (some ⟨sb, so, none⟩) n c)).run Tryz.prog w = .ok .skip (w.setCell ⟨b, o, none⟩ (.slice (some ⟨sb, so, none⟩) n c)) :=
 zcj w b o 23 (.mk sb so n c) (by kernel_rfl) h hf
@[go_sem] theorem ygc (b : Nat) : (stA { objs := .mk b 0 1 1, list := fun _ => .nil } fun _ => 0).setIfInBounds 3 (.slice (some ⟨b + 1 + 1, 0, none⟩) 1 1) = stA (a9V b) fun _ => 0 :=
 zbw (a9V0 b) (fun _ => 0) 2 (.mk (b + 1 + 1) 0 1 1) (by omega)
@[go_sem] theorem ygd (w : World) : (za2 99 #[]).run Tryz.prog w = .ok (.value (.agg (cellsOf [0, 0, 0]))) w := by kernel_rfl
end Go.Proofs.YtgobdndjemicjaaGreatDoor
namespace Go.Proofs.YtgobdndjemicjaaGreatDoor
open Go Go.RowKit Go.Shelf
def b1N : Nat → Int := upd (upd (fun _ => 0) 0 20) 9 20
def b1S : St := { objs := [a9R], list := upd (fun _ => []) 2 [0], num := b1N }
theorem zre : checkN b1S = 0 := by decide +kernel
def b1E : Em := ⟨b1S, [], [], [], 0⟩
theorem yax : Em.new b1S [] = b1E := by rw [zep, zre]; rfl
theorem yay : (b1E.put 0 8).err = 0 ∧ (b1E.put 0 8).settle.err = 0 ∧ ((b1E.put 0 8).settle.now.list 9).length = 1 ∧ (b1E.put 0 8).settle.now.objs.length = 2 ∧ gt (rowAt (b1E.put 0 8).settle.now.objs 1) 0 = 10 ∧ gt (rowAt (b1E.put 0 8).settle.now.objs 1) 13 = 2 ∧ gt (rowAt (b1E.put 0 8).settle.now.objs 1) 14 = 0 ∧ gt (rowAt (b1E.put 0 8).settle.now.objs 1) 15 = 1 := by decide +kernel
theorem yav : (b1E.put 0 8).ran.gone.length ≤ 19 := by decide +kernel
theorem yaw : za9 (b1E.put 0 8).settle.now 1 0 = true := by decide +kernel
theorem z5o : ∀ i, i < b1S.objs.length → (rowAt b1S.objs i).length = 18 := fun i hi => by
 have : i = 0 := by have hi : i < 1 := hi; omega
 subst this; rfl
theorem b1_small : SmallN b1S 1 := ⟨by decide, fun z hz => by simp only [b1S, upd]; (repeat' split) <;> simp⟩
theorem b1_rg : Rg 0 [] b1E := ⟨rfl, (zdy b1S).1 zre, z5o, by decide, by decide, rfl⟩
@[go_sem] theorem ygg (b : Nat) : (stA (a9V b) fun _ => 0).setIfInBounds 12 (.int .i64 20) = stA (a9V b) (upd (fun _ => 0) 0 20) := zfa (a9V b) (fun _ => 0) 0 20 (by omega)
@[go_sem] theorem ygh (b : Nat) : (stA (a9V b) (upd (fun _ => 0) 0 20)).setIfInBounds 21 (.int .i64 20) = stA (a9V b) b1N := zfa (a9V b) (upd (fun _ => 0) 0 20) 9 20 (by omega)
theorem yaz (w : World) : RepSt (((w.alloc (.cells (cellsOf a9R) 77)).alloc (.cells (stA (a9V w.heap.size) b1N) 29)).alloc (.cells (cellsOf [0]) 3)) (a9V w.heap.size) b1S := by
 have hf : zci b1S.objs = a9R.map I := rfl
 have h1 : ∀ i, (((w.alloc (.cells (cellsOf a9R) 77)).alloc (.cells (stA (a9V w.heap.size) b1N) 29)).alloc (.cells (cellsOf [0]) 3)).cell? ⟨w.heap.size, i, none⟩ = (cellsOf a9R)[i]? := fun i => by go_simp
 have hO : Cells (((w.alloc (.cells (cellsOf a9R) 77)).alloc (.cells (stA (a9V w.heap.size) b1N) 29)).alloc (.cells (cellsOf [0]) 3)) (.mk w.heap.size 0 1 1) 18 (a9R.map I) := by
  refine ⟨(by simp [a9R, Sl.n]), (by show 1 ≤ 1; omega), fun j u hu => ?_⟩
  show World.cell? _ ⟨w.heap.size, 0 + j, none⟩ = some u
  rw [h1, Nat.zero_add, ← hu]
  simp [cellsOf]
 rw [← hf] at hO
 refine ⟨hO.rows (by omega) z5o, fun z hz => ?_⟩
 by_cases h8 : z = 2
 · subst h8
   have h1 : ∀ i, (((w.alloc (.cells (cellsOf a9R) 77)).alloc (.cells (stA (a9V w.heap.size) b1N) 29)).alloc (.cells (cellsOf [0]) 3)).cell? ⟨w.heap.size + 1 + 1, i, none⟩ = (cellsOf [0])[i]? := fun i => by go_simp
   exact ⟨rfl, Nat.le_refl _, fun i hi => by
    show World.cell? _ ⟨w.heap.size + 1 + 1, 0 + i, none⟩ = _
    rw [h1, Nat.zero_add]
    exact za6 _ _ hi⟩
 · have e1 : (a9V w.heap.size).list z = .nil := by simp [a9V, upd, h8]
   have e2 : b1S.list z = [] := by simp [b1S, upd, h8]
   rw [e1, e2]; exact Ints.nil _
set_option maxRecDepth 100000 in
set_option maxHeartbeats 4000000 in
theorem zpj (w : World) (GL : GlobE w (fun k => w.heap.size ≤ k)) : Calls Tryz.prog 8 #[] w fun e w' => e = .returned (.bool true) ∧ Grow w w' := by
 have HRep := Lib.hid (yaz w)
 obtain ⟨hp0, hq0, hq1, hq2, hq3, hq4, hq5, hq6⟩ := yay
 have hhas := yaw
 have HNew := Lib.hid (fun W (r : RepSt W (a9V w.heap.size) b1S) (g : Grow w W) => by have := zxu b1S (a9V w.heap.size) W r (b1_small.small (by omega)) (GL.base.grow g) .nil [] (Ints.nil W) (by simp); rw [yax] at this; exact this)
 have HGL := Lib.hid GL
 have hnum : b1S.num = b1N := rfl
 rw [hnum] at HNew
 clear hnum GL
 have hO1 : Og 2 [] (b1E.put 0 8) := Og.put (m := 0) (Or.inr b1_rg) 0 8
 have hMo0 : Mo b1E := Or.inr (b1_rg.mg (by omega) (by simp))
 have hO2 : Og 0 [] (b1E.put 0 8).settle := hO1.settle
 have HM0 := Lib.hid hMo0
 have HGO : Hid ((b1E.put 0 8).ran.gone.length ≤ 19) := yav
 generalize hE1 : b1E.put 0 8 = E1 at *
 generalize hE2 : E1.settle = E2 at *
 have HO1 := Lib.hid hO1
 have hst2 : E2.state = E2.now := by unfold Em.state; rw [if_neg (by rw [hq0]; simp)]
 have HM2 := Lib.hid (hO2.mo (by omega) (by simp))
 have HST := Lib.hid hst2
 have HE1 := Lib.hid hE1
 have HE2 := Lib.hid hE2
 clear hE1 hE2 hO1 hO2 hst2 hp0 hMo0
 generalize hT : E2.now = T at *
 go_enter Tryz.func8, Tryz.ntmps8
 go_wp2_with (go_at_call 15; refine (HNew.out _ HRep.out grI).mono ?_; rintro e' w1 ⟨b, own, rfl, hem, hown, nN, rfl⟩)
 have hg1 : Grow w ((((w.alloc (.cells (cellsOf a9R) 77)).alloc (.cells (stA (a9V w.heap.size) b1N) 29)).alloc (.cells (cellsOf [0]) 3)).plus nN) := grI
 have hown1 : ∀ k, own k → w.heap.size ≤ k := fun k hk => by have := (hown k hk).1; simp only [zaa] at this; omega
 have hgl1 : GlobE _ own := HGL.out.kept (hg1.kept _) (fun k hk => Or.inr (hown1 k hk))
 have hput := zmt _ b own _ hem HM0.out hgl1 0 8
 rw [HE1.out] at hput
 refine hput.mono ?_
 clear hput hown
 generalize (((w.alloc (.cells (cellsOf a9R) 77)).alloc (.cells (stA (a9V w.heap.size) b1N) 29)).alloc (.cells (cellsOf [0]) 3)).plus nN = W1 at *
 rintro e' w2 ⟨rfl, hE⟩
 obtain ⟨own2, T2⟩ := (Turn.first hem).step (Grow.refl _) hE
 have HSe := Lib.hid (fun W (g : Grow w2 W) => by have := zy8 W b own2 E1 (T2.em.grow g) HO1.out (by omega) (by simp) ((T2.glob hgl1).grow g) (fun W s q act D => zq3 W s q act _ D HGO.out); rw [HE2.out] at this; exact this)
 have HT2 := Lib.hid T2
 have HG1 := Lib.hid hg1
 have HOW := Lib.hid hown1
 clear hem hown1 hgl1 hE T2 hg1
 go_wp2_with fail
 refine (HSe.out _ grI).mono ?_
 rintro e' w3 ⟨rfl, hE⟩
 obtain ⟨own3, T3⟩ := HT2.out.step grI hE
 have HSt := Lib.hid (fun W (g : Grow w3 W) => by have := zcu W b own3 E2 (T3.em.grow g) HM2.out; rw [HST.out] at this; exact this)
 have HEr := Lib.hid (fun W (g : Grow w3 W) => by have := zbd W b own3 E2 (T3.em.grow g); rw [hq0, zbf] at this; exact this)
 have HG3 := Lib.hid (T3.kept.grow_of HG1.out HOW.out : Grow w w3)
 clear hE T3 HSe HT2
 go_wp2_with fail
 refine (HSt.out _ grI).mono ?_
 rintro e' W4 ⟨V1, rfl, hR', _, hg4⟩
 have hvn : (V1.list 9).n = 1 := by rw [(hR'.list 9 (by omega)).len]; exact hq1
 have hon : V1.objs.n = 2 := by rw [hR'.objs.len]; exact hq2
 have c15 := hR'.objs.cell 1 15 (by omega) (by omega)
 rw [hq6] at c15
 have hob := (zaz c15).1
 have HOf := Lib.hid (fun W (g : Grow W4 W) => by have := z9q T V1 W (hR'.grow g) 1 0 (by omega) hq4 hq5 hhas; rw [hq3, show ((1 : Nat) : Int) = 1 from rfl] at this; exact this)
 have HEr4 := Lib.hid (fun W (g : Grow W4 W) => HEr.out W (hg4.trans g))
 have HG4 := Lib.hid (HG3.out.trans hg4)
 clear hR' hg4 HSt HEr HG3 hq1 hq2 hq3 hq4 hq5 hq6 hhas hq0
 change W4.cell? _ = some (Value.int .i64 1) at c15
 have c15a : W4.cell? ⟨V1.objs.b, V1.objs.o + 18 + 15, none⟩ = some (Value.int .i64 1) := by rw [Nat.one_mul] at c15; exact c15
 have c15b : W4.cell? ⟨V1.objs.b, V1.objs.o + 33, none⟩ = some (Value.int .i64 1) := by rw [← c15a]
 clear c15
 go_wp2_with fail
 refine (HOf.out _ grI).mono ?_
 rintro e' w' ⟨ab, rfl, hA, nA, rfl⟩
 have hwh : ab.wh = 2 := hA.wh.trans (by decide)
 obtain ⟨wh, c0, c1, c2, c3, c4, c5, tap, tg, ef⟩ := ab
 have hwh : wh = 2 := hwh
 subst hwh
 clear hA HOf
 go_wp2_with (go_at_call 17; refine (HEr4.out _ grI).mono ?_; rintro e' w' ⟨rfl, nx, rfl⟩)
 go_ret
 exact ⟨by rfl, Grow.trans HG4.out grI⟩
end Go.Proofs.YtgobdndjemicjaaGreatDoor
