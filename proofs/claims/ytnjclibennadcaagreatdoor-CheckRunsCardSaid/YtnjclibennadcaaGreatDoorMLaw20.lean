/-
  The walk of the law CheckAgain, and of the fixed fact of check's laws.
  The fixed fact of check's laws.
-/
import Derived.Test.YtnjclibennadcaaGreatDoorMChk3
import Derived.Test.YtnjclibennadcaaGreatDoorMRefChk
namespace Go.Proofs.YtnjclibennadcaaGreatDoor
open Go Go.RowKit Go.Shelf

theorem long_smallN {S : St} (h : longB S 40 = false) : SmallN S 50 := by
  unfold longB longTo at h
  rw [Bool.or_eq_false_iff] at h
  refine ⟨by have := h.1; simp at this; omega, fun z hz => ?_⟩
  have h2 := h.2
  rw [List.any_eq_false] at h2
  have := h2 z (List.mem_range.2 hz)
  simp at this; omega
/-- An emitter of a right state. -/
theorem new_is {S : St} (h : checkN S = 0) : Em.new S [] = ⟨S, [], [], [], 0⟩ := by
  unfold Em.new
  rw [h, if_neg (by simp)]
  exact Em.fail0 rfl
theorem new_ck {S : St} (h : Right S) (hw : ∀ i, i < S.objs.length → (rowAt S.objs i).length = 18) : CkE ⟨S, [], [], [], 0⟩ :=
  ⟨rfl, h, hw, by have := h.zon.len_le (z := 8) (by omega); have := h.many; show 0 + 14 * (S.list 8).length + 2 ≤ 65536; omega, by have := h.zon.len_le (z := 8) (by omega); have := h.many; show 0 + 2 * (S.list 8).length ≤ 65536; omega⟩
/-- What stands behind rounds, and behind those again. -/
theorem again_plain {S : St} (h : Right S) (hw : ∀ i, i < S.objs.length → (rowAt S.objs i).length = 18) (fuel : Int) :
    ∃ E1 : Em, (runG ((S.list 8).length + 2) ⟨S, [], [], [], 0⟩ fuel 0).1 = E1 ∧ RunI E1 1 ∧ quietB E1.now = true ∧ E1.err = 0 ∧ E1.now.objs.length = S.objs.length ∧ runG 1 E1 fuel 0 = (E1, 0) := by
  have hc := new_ck h hw
  have R := run_good hc ((S.list 8).length + 2) (Nat.le_refl _) fuel
  have h8 := h.zon.len_le (z := 8) (by omega)
  have hm := h.many
  refine ⟨_, rfl, ⟨R.err, R.right, ?_, ?_, R.wid, .inl ⟨R.quiet, Nat.le_refl _⟩⟩, R.quiet, R.err, R.many, run_again R.err R.quiet 0 fuel 0⟩
  · have h1 := R.evs
    have h2 : (⟨S, [], [], [], 0⟩ : Em).evs.length + 14 * ((⟨S, [], [], [], 0⟩ : Em).now.list 8).length = 14 * (S.list 8).length := by simp
    omega
  · have h1 := R.pend
    have h2 : (⟨S, [], [], [], 0⟩ : Em).pend.length + 2 * ((⟨S, [], [], [], 0⟩ : Em).now.list 8).length = 2 * (S.list 8).length := by simp
    omega
/-! ### The walk -/
theorem step_want2 {P : Program} {w : World} {ops : Array Oper} {o : Oper} {a : Act} {K : Act → World → Prop} {Q : Exit → Act → World → Prop} {X : Prop} (hw : Region.wanted o (yielded ops a.tmps) = true) (h : Oper.wp P o a w K Q) : if Region.wanted o (yielded ops a.tmps) = true then Oper.wp P o a w K Q else X := by
  rw [if_pos hw]; exact h
/-- Whatever is the emitter's own is new, and the variables are none of it. -/
theorem globE_new {w w1 : World} {own own1 : Nat → Prop} (h : GlobE w own) (g : Grow w w1) (ho : ∀ k, own1 k → w.heap.size ≤ k) : GlobE w1 own1 := h.kept (g.kept own) (fun k hk => Or.inr (ho k hk))
theorem globE_grow {w w1 : World} (h : GlobE w (fun k => w.heap.size ≤ k)) (g : Grow w w1) : GlobE w1 (fun k => w1.heap.size ≤ k) := globE_new h g (fun _ hk => Nat.le_trans g.below.size hk)
end Go.Proofs.YtnjclibennadcaaGreatDoor
namespace Go.Proofs.YtnjclibennadcaaGreatDoor
open Go Go.RowKit Go.Shelf

def alR : List Int := [10, 0, 0, 8, 0, 0, 1, 0, 0, 0, 0, 0, 0, 0, 0, 0, 0, 0]
def alN : Nat → Int := upd (upd (fun _ => 0) 0 1) 9 1
/-- The chapter's example. -/
def alS : St := { objs := [alR], list := upd (fun _ => []) 8 [0], num := alN }
theorem al_check : checkN alS = 0 := by decide +kernel
theorem al_run : (runG 3 ⟨alS, [], [], [], 0⟩ 9 0).2 = 1 ∧ ((runG 3 ⟨alS, [], [], [], 0⟩ 9 0).1.now.list 4).length = 1 ∧ (runG 3 ⟨alS, [], [], [], 0⟩ 9 0).1.now.num 24 = 0 := by decide +kernel
theorem al_wid : ∀ i, i < alS.objs.length → (rowAt alS.objs i).length = 18 := fun i hi => by
  have : i = 0 := by have hi : i < 1 := hi; omega
  subst this; rfl
theorem al_small : Small alS := ⟨by decide, fun z hz => by simp only [alS, upd]; (repeat' split) <;> simp⟩
@[go_sem ↓] theorem build_alSt (ρ : Operand → Value) (dst : Option Tmp) (parts : Array (Nat × Operand)) (ty : TypeId) (pos : String) (after : Array Edge) (guard : Option (Nat × Bool)) :
    execOp ρ { dst, op := .build 29 parts, type := ty, pos, after, guard } = bdRow 29 (parts.map fun (i, x) => (i, ρ x)) := rfl
@[go_sem] theorem al_build0 (w : World) : (bdRow 60 #[(0, .int .i64 10), (3, .int .i64 8), (6, .int .i64 1)]).run Tryz.prog w = .ok (.value (.agg (cellsOf alR))) w := by kernel_rfl
@[go_sem] theorem al_state (w : World) (b : Nat) : (bdRow 29 #[(0, .slice (some ⟨b, 0, none⟩) 1 1)]).run Tryz.prog w = .ok (.value (.agg (stA ⟨.mk b 0 1 1, fun _ => .nil⟩ fun _ => 0))) w := by kernel_rfl
@[go_sem] theorem al_len : alR.length = 18 := by decide
def alV0 (b : Nat) : SV := ⟨.mk b 0 1 1, fun _ => .nil⟩
/-- Its slices. -/
def alV (b : Nat) : SV := ⟨.mk b 0 1 1, upd (fun _ => .nil) 8 (.mk (b + 1 + 1) 0 1 1)⟩
@[go_sem] theorem run_storeX_alInts (w : World) (b o sb so n c : Nat) (h : (w.cell? ⟨b, o, none⟩).isSome = true) (hf : w.frozen? ⟨b, o, none⟩ = false) : (stRow 23 (.pointer (some ⟨b, o, none⟩)) (.slice (some ⟨sb, so, none⟩) n c)).run Tryz.prog w = .ok .skip (w.setCell ⟨b, o, none⟩ (.slice (some ⟨sb, so, none⟩) n c)) :=
  run_stSl w b o 23 (.mk sb so n c) (by kernel_rfl) h hf
@[go_sem] theorem al_put (b : Nat) : (stA { objs := .mk b 0 1 1, list := fun _ => .nil } fun _ => 0).setIfInBounds 9 (.slice (some ⟨b + 1 + 1, 0, none⟩) 1 1) = stA (alV b) fun _ => 0 :=
  stA_setList (alV0 b) (fun _ => 0) 8 (.mk (b + 1 + 1) 0 1 1) (by omega)
@[go_sem] theorem al_put0 (b : Nat) : (stA (alV b) fun _ => 0).setIfInBounds 12 (.int .i64 1) = stA (alV b) (upd (fun _ => 0) 0 1) := stA_setNum (alV b) (fun _ => 0) 0 1 (by omega)
@[go_sem] theorem al_put9 (b : Nat) : (stA (alV b) (upd (fun _ => 0) 0 1)).setIfInBounds 21 (.int .i64 1) = stA (alV b) alN := stA_setNum (alV b) (upd (fun _ => 0) 0 1) 9 1 (by omega)
theorem al_rep (w : World) : RepSt (((w.alloc (.cells (cellsOf alR) 60)).alloc (.cells (stA (alV w.heap.size) alN) 29)).alloc (.cells (cellsOf [0]) 3)) (alV w.heap.size) alS := by
  have hf : flat alS.objs = alR.map I := rfl
  have h1 : ∀ i, (((w.alloc (.cells (cellsOf alR) 60)).alloc (.cells (stA (alV w.heap.size) alN) 29)).alloc (.cells (cellsOf [0]) 3)).cell? ⟨w.heap.size, i, none⟩ = (cellsOf alR)[i]? := fun i => by go_simp
  have hO : Cells (((w.alloc (.cells (cellsOf alR) 60)).alloc (.cells (stA (alV w.heap.size) alN) 29)).alloc (.cells (cellsOf [0]) 3)) (.mk w.heap.size 0 1 1) 18 (alR.map I) := by
    refine ⟨(by simp [alR, Sl.n]), (by show 1 ≤ 1; omega), fun j u hu => ?_⟩
    show World.cell? _ ⟨w.heap.size, 0 + j, none⟩ = some u
    rw [h1, Nat.zero_add, ← hu]
    simp [cellsOf]
  rw [← hf] at hO
  refine ⟨hO.rows (by omega) al_wid, fun z hz => ?_⟩
  by_cases h8 : z = 8
  · subst h8
    have h1 : ∀ i, (((w.alloc (.cells (cellsOf alR) 60)).alloc (.cells (stA (alV w.heap.size) alN) 29)).alloc (.cells (cellsOf [0]) 3)).cell? ⟨w.heap.size + 1 + 1, i, none⟩ = (cellsOf [0])[i]? := fun i => by go_simp
    exact ⟨rfl, Nat.le_refl _, fun i hi => by
      show World.cell? _ ⟨w.heap.size + 1 + 1, 0 + i, none⟩ = _
      rw [h1, Nat.zero_add]
      exact cellsOf_get _ _ hi⟩
  · have e1 : (alV w.heap.size).list z = .nil := by simp [alV, upd, h8]
    have e2 : alS.list z = [] := by simp [alS, upd, h8]
    rw [e1, e2]; exact Ints.nil _
set_option maxRecDepth 100000 in
set_option maxHeartbeats 4000000 in
theorem alive20_any (w : World) (GL : GlobE w (fun k => w.heap.size ≤ k)) : Calls Tryz.prog 11 #[] w fun e w' => e = .returned (.bool true) ∧ Grow w w' := by
  have HRep := Lib.hid (al_rep w)
  have hck := new_ck ((checkN_zero alS).1 al_check) al_wid
  have HI0 := Lib.hid (RunI.of hck 3 (by decide))
  have hgo := run_good hck 3 (by decide) 9
  obtain ⟨hr1, hr2, hr3⟩ := al_run
  have HNew := Lib.hid (fun W (r : RepSt W (alV w.heap.size) alS) (g : Grow w W) => by have := new_any alS (alV w.heap.size) W r al_small (GL.base.grow g) .nil [] (Ints.nil W) (by simp); rw [new_is al_check] at this; exact this)
  have HGL := Lib.hid GL
  have hnum : alS.num = alN := rfl
  rw [hnum] at HNew
  generalize hE1 : (runG 3 ⟨alS, [], [], [], 0⟩ 9 0).1 = E1 at *
  have HE1 := Lib.hid hE1
  have HR1 := Lib.hid hr1
  have he1 := hgo.err
  have HST : Hid (E1.state = E1.now) := by show E1.state = E1.now; unfold Em.state; rw [if_neg (by rw [he1]; simp)]
  have HSM := Lib.hid (hgo.right.smallN.small (show 400 ≤ 1048576 by omega))
  clear GL hck hgo hE1 hr1 hnum
  go_enter Tryz.func11, Tryz.ntmps11
  go_wp2_with (go_at_call 13; refine (HNew.out _ HRep.out grI).mono ?_; rintro e' w1 ⟨b, own, rfl, hem, hown, nN, rfl⟩)
  have hg1 : Grow w ((((w.alloc (.cells (cellsOf alR) 60)).alloc (.cells (stA (alV w.heap.size) alN) 29)).alloc (.cells (cellsOf [0]) 3)).plus nN) := grI
  have hown1 : ∀ k, own k → w.heap.size ≤ k := fun k hk => by have := (hown k hk).1; simp only [alloc_size'] at this; omega
  have hgl1 := globE_new HGL.out hg1 hown1
  have hrun := runs_any _ b own _ hem hgl1 3 HI0.out (by omega) 9
  rw [HE1.out, HR1.out] at hrun
  refine hrun.mono ?_
  clear hrun hown
  generalize (((w.alloc (.cells (cellsOf alR) 60)).alloc (.cells (stA (alV w.heap.size) alN) 29)).alloc (.cells (cellsOf [0]) 3)).plus nN = W1 at *
  rintro e' w2 ⟨rfl, hE⟩
  obtain ⟨own2, T2⟩ := (Turn.first hem).step (Grow.refl _) hE
  have HSt := Lib.hid (fun W (g : Grow w2 W) => by have := estate_any W b own2 E1 (T2.em.grow g) HSM.out; rw [HST.out] at this; exact this)
  have HEr := Lib.hid (fun W (g : Grow w2 W) => by have := err_any W b own2 E1 (T2.em.grow g); rw [he1, errV_0] at this; exact this)
  have HG2 := Lib.hid (T2.kept.grow_of hg1 hown1 : Grow w w2)
  clear hem hown1 hgl1 hE T2 hg1 he1 HE1 HR1
  go_wp2_with fail
  refine (HSt.out _ (Grow.refl _)).mono ?_
  rintro e' w' ⟨V1, rfl, hR', hu, nS, rfl⟩
  have hvn : (V1.list 4).n = 1 := by rw [(hR'.list 4 (by omega)).len]; exact hr2
  clear hR' hu
  go_wp2_with (go_at_call 37; refine (HEr.out _ grI).mono ?_; rintro e' w' ⟨rfl, nx, rfl⟩)
  go_ret
  exact ⟨by rfl, Grow.trans HG2.out grI⟩
end Go.Proofs.YtnjclibennadcaaGreatDoor
