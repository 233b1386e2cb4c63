/-
  The fixed fact of emit's laws.
-/
import Derived.Test.YtkbghjfagnjpoaaGreatDoorMEm9
import Derived.Test.YtkbghjfagnjpoaaGreatDoorMIs19
import Derived.Test.YtkbghjfagnjpoaaGreatDoorMEmNew
namespace Go.Proofs.YtkbghjfagnjpoaaGreatDoor
open Go Go.RowKit Go.Shelf

def a9R : List Int := [10, 0, 0, 2, 0, 0, 0, 0, 0, 0, 0, 0, 0, 0, 0, 0, 0, 0]
/-- The chapter's example. -/
def a9S : St := { objs := [a9R], list := upd (fun _ => []) 2 [0], num := fun _ => 0 }
theorem a9_check : checkN a9S = 0 := by decide +kernel
def a9E : Em := ⟨a9S, [], [], [], 0⟩
theorem a9_new : Em.new a9S [] = a9E := by rw [new_nil, a9_check]; rfl
theorem a9_put : (a9E.put 0 8).err = 0 ∧ (a9E.put 0 8).now.objs = [[10, 0, 0, 8, 0, 1, 0, 0, 0, 0, 0, 0, 0, 0, 0, 0, 0, 3]] ∧ ((a9E.put 0 8).now.list 8).length = 1 ∧ (a9E.put 0 8).pend = [[0, 0, 0]] ∧ (a9E.put 0 8).now.num 0 = 0 := by decide +kernel
theorem a9_wid : ∀ i, i < a9S.objs.length → (rowAt a9S.objs i).length = 18 := fun i hi => by
  have : i = 0 := by have hi : i < 1 := hi; omega
  subst this; rfl
theorem a9_small : SmallN a9S 1 := ⟨by decide, fun z hz => by simp only [a9S, upd]; (repeat' split) <;> simp⟩
@[go_sem ↓] theorem build_a9St (ρ : Operand → Value) (dst : Option Tmp) (parts : Array (Nat × Operand)) (ty : TypeId) (pos : String) (after : Array Edge) (guard : Option (Nat × Bool)) :
    execOp ρ { dst, op := .build 29 parts, type := ty, pos, after, guard } = bdRow 29 (parts.map fun (i, x) => (i, ρ x)) := rfl
@[go_sem] theorem a9_build0 (w : World) : (bdRow 64 #[(0, .int .i64 10), (3, .int .i64 2)]).run Tryz.prog w = .ok (.value (.agg (cellsOf a9R))) w := by kernel_rfl
@[go_sem] theorem a9_state (w : World) (b : Nat) : (bdRow 29 #[(0, .slice (some ⟨b, 0, none⟩) 1 1)]).run Tryz.prog w = .ok (.value (.agg (stA ⟨.mk b 0 1 1, fun _ => .nil⟩ fun _ => 0))) w := by kernel_rfl
@[go_sem] theorem a9_len : a9R.length = 18 := by decide
def a9V0 (b : Nat) : SV := ⟨.mk b 0 1 1, fun _ => .nil⟩
/-- Its slices. -/
def a9V (b : Nat) : SV := ⟨.mk b 0 1 1, upd (fun _ => .nil) 2 (.mk (b + 1 + 1) 0 1 1)⟩
@[go_sem] theorem run_storeX_a9Ints (w : World) (b o sb so n c : Nat) (h : (w.cell? ⟨b, o, none⟩).isSome = true) (hf : w.frozen? ⟨b, o, none⟩ = false) : (stRow 23 (.pointer (some ⟨b, o, none⟩)) (.slice (some ⟨sb, so, none⟩) n c)).run Tryz.prog w = .ok .skip (w.setCell ⟨b, o, none⟩ (.slice (some ⟨sb, so, none⟩) n c)) :=
  run_stSl w b o 23 (.mk sb so n c) (by kernel_rfl) h hf
@[go_sem] theorem a9_put3 (b : Nat) : (stA { objs := .mk b 0 1 1, list := fun _ => .nil } fun _ => 0).setIfInBounds 3 (.slice (some ⟨b + 1 + 1, 0, none⟩) 1 1) = stA (a9V b) fun _ => 0 :=
  stA_setList (a9V0 b) (fun _ => 0) 2 (.mk (b + 1 + 1) 0 1 1) (by omega)
@[go_sem] theorem a9_zero (w : World) : (bdRow 75 #[]).run Tryz.prog w = .ok (.value (.agg (cellsOf [0, 0, 0]))) w := by kernel_rfl
theorem a9_rep (w : World) : RepSt (((w.alloc (.cells (cellsOf a9R) 64)).alloc (.cells (stA (a9V w.heap.size) fun _ => 0) 29)).alloc (.cells (cellsOf [0]) 3)) (a9V w.heap.size) a9S := by
  have hf : flat a9S.objs = a9R.map I := rfl
  have h1 : ∀ i, (((w.alloc (.cells (cellsOf a9R) 64)).alloc (.cells (stA (a9V w.heap.size) fun _ => 0) 29)).alloc (.cells (cellsOf [0]) 3)).cell? ⟨w.heap.size, i, none⟩ = (cellsOf a9R)[i]? := fun i => by go_simp
  have hO : Cells (((w.alloc (.cells (cellsOf a9R) 64)).alloc (.cells (stA (a9V w.heap.size) fun _ => 0) 29)).alloc (.cells (cellsOf [0]) 3)) (.mk w.heap.size 0 1 1) 18 (a9R.map I) := by
    refine ⟨(by simp [a9R, Sl.n]), (by show 1 ≤ 1; omega), fun j u hu => ?_⟩
    show World.cell? _ ⟨w.heap.size, 0 + j, none⟩ = some u
    rw [h1, Nat.zero_add, ← hu]
    simp [cellsOf]
  rw [← hf] at hO
  refine ⟨hO.rows (by omega) a9_wid, fun z hz => ?_⟩
  by_cases h8 : z = 2
  · subst h8
    have h1 : ∀ i, (((w.alloc (.cells (cellsOf a9R) 64)).alloc (.cells (stA (a9V w.heap.size) fun _ => 0) 29)).alloc (.cells (cellsOf [0]) 3)).cell? ⟨w.heap.size + 1 + 1, i, none⟩ = (cellsOf [0])[i]? := fun i => by go_simp
    exact ⟨rfl, Nat.le_refl _, fun i hi => by
      show World.cell? _ ⟨w.heap.size + 1 + 1, 0 + i, none⟩ = _
      rw [h1, Nat.zero_add]
      exact cellsOf_get _ _ hi⟩
  · have e1 : (a9V w.heap.size).list z = .nil := by simp [a9V, upd, h8]
    have e2 : a9S.list z = [] := by simp [a9S, upd, h8]
    rw [e1, e2]; exact Ints.nil _
set_option maxRecDepth 100000 in
set_option maxHeartbeats 4000000 in
theorem alive19_any (w : World) (GL : GlobE w (fun k => w.heap.size ≤ k)) : Calls Tryz.prog 11 #[] w fun e w' => e = .returned (.bool true) ∧ Grow w w' := by
  have HRep := Lib.hid (a9_rep w)
  obtain ⟨hp0, hp1, hp2, hp3, _⟩ := a9_put
  have HNew := Lib.hid (fun W (r : RepSt W (a9V w.heap.size) a9S) (g : Grow w W) => by have := new_any a9S (a9V w.heap.size) W r (a9_small.small (by omega)) (GL.base.grow g) .nil [] (Ints.nil W) (by simp); rw [a9_new] at this; exact this)
  have HGL := Lib.hid GL
  have hnum : a9S.num = fun _ => 0 := rfl
  rw [hnum] at HNew
  clear hnum GL
  have HOk := Lib.hid (show EmOk a9E 1 from ⟨a9_small, by decide, by decide⟩)
  have HOk2 : SmallN (a9E.put 0 8).now 1 := ⟨by rw [hp1]; decide, by decide +kernel⟩
  have HZ := Lib.hid (show a9E.err = 0 → ∀ i, i < a9E.now.objs.length → 0 ≤ gt (rowAt a9E.now.objs i) 3 ∧ gt (rowAt a9E.now.objs i) 3 < 11 from fun _ i hi => by
    have : i = 0 := by have hi : i < 1 := hi; omega
    subst this; decide)
  generalize hE1 : a9E.put 0 8 = E1 at *
  have HST : Hid (E1.state = E1.now) := by show E1.state = E1.now; unfold Em.state; rw [if_neg (by rw [hp0]; simp)]
  have HSM := Lib.hid (HOk2.small (show 1 ≤ 1048576 by omega))
  have HE1 := Lib.hid hE1
  clear hE1 HOk2
  go_enter Tryz.func11, Tryz.ntmps11
  go_wp2_with (go_at_call 14; refine (HNew.out _ HRep.out grI).mono ?_; rintro e' w1 ⟨b, own, rfl, hem, hown, nN, rfl⟩)
  have hg1 : Grow w ((((w.alloc (.cells (cellsOf a9R) 64)).alloc (.cells (stA (a9V w.heap.size) fun _ => 0) 29)).alloc (.cells (cellsOf [0]) 3)).plus nN) := grI
  have hown1 : ∀ k, own k → w.heap.size ≤ k := fun k hk => by have := (hown k hk).1; simp only [alloc_size'] at this; omega
  have hgl1 : GlobE _ own := HGL.out.kept (hg1.kept _) (fun k hk => Or.inr (hown1 k hk))
  have hput := eput_any _ b own _ hem 1 HOk.out (by omega) hgl1 HZ.out 0 8
  rw [HE1.out] at hput
  refine hput.mono ?_
  clear hput hown
  generalize (((w.alloc (.cells (cellsOf a9R) 64)).alloc (.cells (stA (a9V w.heap.size) fun _ => 0) 29)).alloc (.cells (cellsOf [0]) 3)).plus nN = W1 at *
  rintro e' w2 ⟨rfl, hE⟩
  obtain ⟨own2, T2⟩ := (Turn.first hem).step (Grow.refl _) hE
  have HSt := Lib.hid (fun W (g : Grow w2 W) => by have := estate_any W b own2 E1 (T2.em.grow g) HSM.out; rw [HST.out] at this; exact this)
  have HPe := Lib.hid (fun W (g : Grow w2 W) => by have := epending_any W b own2 E1 (T2.em.grow g) (by rw [hp3]; decide); rw [if_neg (by rw [hp0]; simp), hp3] at this; exact this)
  have HEr := Lib.hid (fun W (g : Grow w2 W) => by have := err_any W b own2 E1 (T2.em.grow g); rw [hp0, errV_0] at this; exact this)
  have HG2 := Lib.hid (T2.kept.grow_of hg1 hown1 : Grow w w2)
  clear hem hown1 hgl1 hE T2 hg1 HE1
  go_wp2_with fail
  refine (HSt.out _ (Grow.refl _)).mono ?_
  rintro e' w' ⟨V1, rfl, hR', hu, nS, rfl⟩
  have hvn : (V1.list 8).n = 1 := by rw [(hR'.list 8 (by omega)).len]; exact hp2
  have hon : V1.objs.n = 1 := by rw [hR'.objs.len, hp1]; rfl
  have HO := Lib.hid (show Rows' (w2.plus nS) V1.objs 18 [[10, 0, 0, 8, 0, 1, 0, 0, 0, 0, 0, 0, 0, 0, 0, 0, 0, 3]] by rw [← hp1]; exact hR'.objs)
  clear hR' hu
  go_wp2_with fail
  refine (HPe.out _ grI).mono ?_
  rintro e' W3 ⟨sp, rfl, hP, hg3⟩
  have hsn : sp.n = 1 := hP.len
  obtain ⟨ob, ow, osz, osub, oc⟩ := (HO.out.grow hg3).at (by omega) 0 (by decide)
  obtain ⟨pb, pw, psz, psub, pc⟩ := hP.at (by omega) 0 (by decide)
  have o5 := oc 5 (by decide)
  have o17 := oc 17 (by decide)
  rw [show gt (rowAt [[10, 0, 0, 8, 0, 1, 0, 0, 0, 0, 0, 0, 0, 0, 0, 0, 0, 3]] 0) 5 = (1 : Int) from rfl] at o5
  rw [show gt (rowAt [[10, 0, 0, 8, 0, 1, 0, 0, 0, 0, 0, 0, 0, 0, 0, 0, 0, 3]] 0) 17 = (3 : Int) from rfl] at o17
  rw [show rowAt [[(0 : Int), 0, 0]] 0 = [0, 0, 0] from rfl] at psub
  simp only [Nat.zero_mul, Nat.add_zero] at o5 o17 psub psz
  have HEr2 := Lib.hid (fun W (g : Grow W3 W) => HEr.out W (Grow.trans ⟨nS, rfl⟩ (hg3.trans g)))
  have HG3 := Lib.hid ((HG2.out.trans ⟨nS, rfl⟩).trans hg3)
  clear oc pc osub osz ow pw HO hP HSt HPe HEr HG2 hg3
  go_wp2_with (go_at_call 16; refine (HEr2.out _ grI).mono ?_; rintro e' w' ⟨rfl, nx, rfl⟩)
  go_ret
  exact ⟨by rfl, Grow.trans HG3.out grI⟩
/-- A state, draws or acts longer than is looked at. -/
def long19B (S : St) (nd na : Nat) : Bool := longB S 30 || (decide (5000 < nd) || decide (20 < na))
theorem long19_any (S : St) (V : SV) (w : World) (R : RepSt w V S) (sd sa : Sl) (hd : sd.n ≤ 9223372036854775807) (ha : sa.n ≤ 9223372036854775807) :
    Calls Tryz.prog 12 #[.agg (stA V S.num), sd.val, sa.val] w fun e w' => e = .returned (.bool (long19B S sd.n sa.n)) ∧ Grow w w' := by
  have HL := Lib.hid (fun W (g : Grow w W) => long_any S V 30 (by omega) W (R.grow g))
  unfold long19B
  generalize longB S 30 = l at *
  clear R
  cases l with
  | true =>
    go_enter Tryz.func12, Tryz.ntmps12
    go_wp2_with (go_at_call 7; refine (HL.out _ grI).mono ?_; rintro e' w' ⟨rfl, nx, rfl⟩)
    go_ret
    exact ⟨rfl, grI⟩
  | false =>
    by_cases h1 : 5000 < sd.n
    · have h1' : (5000 : Int) < (sd.n : Int) := by omega
      simp only [h1, decide_true, Bool.true_or, Bool.false_or]
      go_enter Tryz.func12, Tryz.ntmps12
      go_wp2_with (go_at_call 7; refine (HL.out _ grI).mono ?_; rintro e' w' ⟨rfl, nx, rfl⟩)
      go_ret
      exact ⟨rfl, grI⟩
    · have h1' : ((5000 : Int) < (sd.n : Int)) = False := by simp; omega
      simp only [h1, decide_false, Bool.false_or]
      by_cases h2 : 20 < sa.n
      · have h2' : (20 : Int) < (sa.n : Int) := by omega
        simp only [h2, decide_true]
        go_enter Tryz.func12, Tryz.ntmps12
        go_wp2_with (go_at_call 7; refine (HL.out _ grI).mono ?_; rintro e' w' ⟨rfl, nx, rfl⟩)
        go_ret
        exact ⟨rfl, grI⟩
      · have h2' : ((20 : Int) < (sa.n : Int)) = False := by simp; omega
        simp only [h2, decide_false]
        go_enter Tryz.func12, Tryz.ntmps12
        go_wp2_with (go_at_call 7; refine (HL.out _ grI).mono ?_; rintro e' w' ⟨rfl, nx, rfl⟩)
        go_ret
        exact ⟨rfl, grI⟩
end Go.Proofs.YtkbghjfagnjpoaaGreatDoor
