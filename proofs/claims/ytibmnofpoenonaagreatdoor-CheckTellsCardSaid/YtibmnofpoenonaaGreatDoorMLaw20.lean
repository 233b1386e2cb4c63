/-
  The walk of the law CheckAgain, and of the fixed fact of check's laws.
-/
import Derived.Test.YtibmnofpoenonaaGreatDoorMChk3
import Derived.Test.YtibmnofpoenonaaGreatDoorMRefChk
namespace Go.Proofs.YtibmnofpoenonaaGreatDoor
open Go Go.RowKit Go.Shelf

theorem long_smallN {S : St} (h : longB S 40 = false) : SmallN S 50 := by
  unfold longB longTo at h
  rw [Bool.or_eq_false_iff] at h
  refine ⟨by have := h.1; simp at this; omega, fun z hz => ?_⟩
  have h2 := h.2
  rw [List.any_eq_false] at h2
  have := h2 z (List.mem_range.2 hz)
  simp at this; omega
/-- An emitter of a right state. -/
theorem new_is {S : St} (h : checkN S = 0) : Em.new S [] = ⟨S, [], [], [], 0⟩ := by
  unfold Em.new
  rw [h, if_neg (by simp)]
  exact Em.fail0 rfl
theorem new_ck {S : St} (h : Right S) (hw : ∀ i, i < S.objs.length → (rowAt S.objs i).length = 18) : CkE ⟨S, [], [], [], 0⟩ :=
  ⟨rfl, h, hw, by have := h.zon.len_le (z := 8) (by omega); have := h.many; show 0 + 14 * (S.list 8).length + 2 ≤ 65536; omega, by have := h.zon.len_le (z := 8) (by omega); have := h.many; show 0 + 2 * (S.list 8).length ≤ 65536; omega⟩
/-- What stands behind rounds, and behind those again. -/
theorem again_plain {S : St} (h : Right S) (hw : ∀ i, i < S.objs.length → (rowAt S.objs i).length = 18) (fuel : Int) :
    ∃ E1 : Em, (runG ((S.list 8).length + 2) ⟨S, [], [], [], 0⟩ fuel 0).1 = E1 ∧ RunI E1 1 ∧ quietB E1.now = true ∧ E1.err = 0 ∧ E1.now.objs.length = S.objs.length ∧ runG 1 E1 fuel 0 = (E1, 0) := by
  have hc := new_ck h hw
  have R := run_good hc ((S.list 8).length + 2) (Nat.le_refl _) fuel
  have h8 := h.zon.len_le (z := 8) (by omega)
  have hm := h.many
  refine ⟨_, rfl, ⟨R.err, R.right, ?_, ?_, R.wid, .inl ⟨R.quiet, Nat.le_refl _⟩⟩, R.quiet, R.err, R.many, run_again R.err R.quiet 0 fuel 0⟩
  · have h1 := R.evs
    have h2 : (⟨S, [], [], [], 0⟩ : Em).evs.length + 14 * ((⟨S, [], [], [], 0⟩ : Em).now.list 8).length = 14 * (S.list 8).length := by simp
    omega
  · have h1 := R.pend
    have h2 : (⟨S, [], [], [], 0⟩ : Em).pend.length + 2 * ((⟨S, [], [], [], 0⟩ : Em).now.list 8).length = 2 * (S.list 8).length := by simp
    omega
/-! ### The walk -/
theorem step_want2 {P : Program} {w : World} {ops : Array Oper} {o : Oper} {a : Act} {K : Act → World → Prop} {Q : Exit → Act → World → Prop} {X : Prop} (hw : Region.wanted o (yielded ops a.tmps) = true) (h : Oper.wp P o a w K Q) : if Region.wanted o (yielded ops a.tmps) = true then Oper.wp P o a w K Q else X := by
  rw [if_pos hw]; exact h
/-- Whatever is the emitter's own is new, and the variables are none of it. -/
theorem globE_new {w w1 : World} {own own1 : Nat → Prop} (h : GlobE w own) (g : Grow w w1) (ho : ∀ k, own1 k → w.heap.size ≤ k) : GlobE w1 own1 := h.kept (g.kept own) (fun k hk => Or.inr (ho k hk))
theorem globE_grow {w w1 : World} (h : GlobE w (fun k => w.heap.size ≤ k)) (g : Grow w w1) : GlobE w1 (fun k => w1.heap.size ≤ k) := globE_new h g (fun _ hk => Nat.le_trans g.below.size hk)
set_option maxRecDepth 100000 in
set_option maxHeartbeats 8000000 in
theorem again_any (S : St) (V : SV) (w : World) (R : RepSt w V S) (GL : GlobE w (fun k => w.heap.size ≤ k)) (HA : ∀ W, Grow w W → Calls Tryz.prog 7 #[] W fun e w' => e = .returned (.bool true) ∧ Grow W w') (fuel : Int) :
    Calls Tryz.prog 3 #[.agg (stA V S.num), .int .i64 fuel] w fun e w' => e = .returned (.bool true) ∧ Grow w w' := by
  have HAl := Lib.hid HA
  have HLo := Lib.hid (fun W (g : Grow w W) => long_any S V 40 (by omega) W (R.grow g))
  have HR := Lib.hid R
  cases hl : longB S 40 with
  | true =>
    rw [hl] at HLo
    clear R GL hl HA
    go_enter Tryz.func3, Tryz.ntmps3
    go_wp2_with (first | (go_at_call 7; refine (HAl.out _ (by repeat (first | exact Grow.refl _ | refine Grow.andr ?_ | refine Grow.plus ?_ _ | refine Grow.alloc ?_ _ | refine Grow.drew ?_ | refine Grow.drewN ?_ _))).mono ?_; rintro e' w' ⟨rfl, nx, rfl⟩) | (go_at_call 8; refine (HLo.out _ (by repeat (first | exact Grow.refl _ | refine Grow.andr ?_ | refine Grow.plus ?_ _ | refine Grow.alloc ?_ _ | refine Grow.drew ?_ | refine Grow.drewN ?_ _))).mono ?_; rintro e' w' ⟨rfl, nx, rfl⟩))
    go_ret
    exact ⟨rfl, (by repeat (first | exact Grow.refl _ | refine Grow.andr ?_ | refine Grow.plus ?_ _ | refine Grow.alloc ?_ _ | refine Grow.drew ?_ | refine Grow.drewN ?_ _))⟩
  | false =>
  have hsm := long_smallN hl
  have HRef := Lib.hid (fun W (g : Grow w W) => refCheck_any S V W (R.grow g) (hsm.small (by omega)))
  rw [hl] at HLo
  clear hl
  by_cases hck : checkN S = 0
  · rw [hck] at HRef
    have hRt : Right S := (checkN_zero S).1 hck
    obtain ⟨E1, hE1, hI1, hq1, he1, hm1, hr1⟩ := again_plain hRt R.objs.wid fuel
    have HNew := Lib.hid (fun W (g : Grow w W) => by have := new_any S V W (R.grow g) (hsm.small (by omega)) (GL.base.grow g) .nil [] (Ints.nil W) (by simp); rw [new_is hck] at this; exact this)
    have HI0 := Lib.hid (RunI.of (new_ck hRt R.objs.wid) ((S.list 8).length + 2) (Nat.le_refl _))
    have h8 : (S.list 8).length ≤ 50 := hsm.list 8 (by omega)
    have HGL := Lib.hid GL
    have HE1 := Lib.hid hE1
    have HI1 := Lib.hid hI1
    have HR1 := Lib.hid hr1
    clear R GL hck hsm HA hRt hE1 hI1 hr1
    go_enter Tryz.func3, Tryz.ntmps3
    go_wp2_with (first | (go_at_call 7; refine (HAl.out _ (by repeat (first | exact Grow.refl _ | refine Grow.andr ?_ | refine Grow.plus ?_ _ | refine Grow.alloc ?_ _ | refine Grow.drew ?_ | refine Grow.drewN ?_ _))).mono ?_; rintro e' w' ⟨rfl, nA, rfl⟩) | (go_at_call 8; refine (HLo.out _ (by repeat (first | exact Grow.refl _ | refine Grow.andr ?_ | refine Grow.plus ?_ _ | refine Grow.alloc ?_ _ | refine Grow.drew ?_ | refine Grow.drewN ?_ _))).mono ?_; rintro e' w' ⟨rfl, nL, rfl⟩) | (go_at_call 9; refine (HRef.out _ (by repeat (first | exact Grow.refl _ | refine Grow.andr ?_ | refine Grow.plus ?_ _ | refine Grow.alloc ?_ _ | refine Grow.drew ?_ | refine Grow.drewN ?_ _))).mono ?_; rintro e' w' ⟨rfl, nX, rfl⟩) | (go_at_call 10; refine (HNew.out _ (by repeat (first | exact Grow.refl _ | refine Grow.andr ?_ | refine Grow.plus ?_ _ | refine Grow.alloc ?_ _ | refine Grow.drew ?_ | refine Grow.drewN ?_ _))).mono ?_; rintro e' w1 ⟨b, own, rfl, hem, hown, nN, rfl⟩))
    have hem1 : Emt ((w.alloc (.cells (stA V S.num) 29)).plus (((nA.and nL).and nX).and nN)) b own ⟨S, [], [], [], 0⟩ := by rw [← plus_plus]; exact hem
    have hg1 : Grow w ((w.alloc (.cells (stA V S.num) 29)).plus (((nA.and nL).and nX).and nN)) := (by repeat (first | exact Grow.refl _ | refine Grow.andr ?_ | refine Grow.plus ?_ _ | refine Grow.alloc ?_ _ | refine Grow.drew ?_ | refine Grow.drewN ?_ _))
    have hown1 : ∀ k, own k → w.heap.size + 1 ≤ k := fun k hk => by have := (hown k hk).1; simp only [plus_size, alloc_size'] at this; omega
    have hgl1 := globE_new HGL.out hg1 (fun k hk => by have := hown1 k hk; omega)
    have hblk1 : ((w.alloc (.cells (stA V S.num) 29)).plus (((nA.and nL).and nX).and nN)).blk w.heap.size = stA V S.num := by go_simp
    have hsz1 : w.heap.size < ((w.alloc (.cells (stA V S.num) 29)).plus (((nA.and nL).and nX).and nN)).heap.size := by simp only [plus_size, alloc_size']; omega
    clear hem hown
    refine (runs_any _ b own _ hem1 hgl1 _ HI0.out (by omega) fuel).mono ?_
    generalize (w.alloc (.cells (stA V S.num) 29)).plus (((nA.and nL).and nX).and nN) = W1 at *
    rintro e' w2 ⟨rfl, hE⟩
    rw [HE1.out] at hE
    obtain ⟨own2, T2⟩ := (Turn.first hem1).step (Grow.refl _) hE
    have hgl2 := T2.glob hgl1
    have hsm1 := HI1.out.right.smallN.small (show 400 ≤ 1048576 by omega)
    have HSt := Lib.hid (fun W (g : Grow w2 W) => by have := estate_any W b own2 E1 (T2.em.grow g) hsm1; rw [HI1.out.state] at this; exact this)
    have HEr := Lib.hid (fun W (g : Grow w2 W) => by have := err_any W b own2 E1 (T2.em.grow g); rw [he1, errV_0] at this; exact this)
    have HRu := Lib.hid (fun W (g : Grow w2 W) => by have := runs_any W b own2 E1 (T2.em.grow g) (hgl2.grow g) 1 HI1.out (by omega) fuel; rw [HR1.out] at this; exact this)
    have HT2 := Lib.hid T2
    have HG1 := Lib.hid hg1
    have hown2 : ∀ k, own2 k → w.heap.size + 1 ≤ k := fun k hk => by
      rcases T2.own k hk with h | h
      · exact hown1 k h
      · omega
    have HO2 := Lib.hid hown2
    have HG2 := Lib.hid (T2.kept.grow_of hg1 (fun k hk => by have := hown1 k hk; omega) : Grow w w2)
    have HL2 := Lib.hid T2.em.lt
    have HGL2 := Lib.hid hgl2
    have HSM := Lib.hid hsm1
    clear hem1 hown1 hgl1 hE T2 hgl2 hsm1 hown2 hg1 hblk1
    go_wp2_with (first | (go_at_call 13; refine (HEr.out _ (by repeat (first | exact Grow.refl _ | refine Grow.andr ?_ | refine Grow.plus ?_ _ | refine Grow.alloc ?_ _ | refine Grow.drew ?_ | refine Grow.drewN ?_ _))).mono ?_; rintro e' w' ⟨rfl, nx, rfl⟩) | (go_at_call 12; refine (HSt.out _ (by repeat (first | exact Grow.refl _ | refine Grow.andr ?_ | refine Grow.plus ?_ _ | refine Grow.alloc ?_ _ | refine Grow.drew ?_ | refine Grow.drewN ?_ _))).mono ?_; rintro e' w' ⟨V1, rfl, hR', hu, nS, rfl⟩; have HR' := Lib.hid hR'; have HU := Lib.hid hu; clear hR' hu))
    have hg3 : Grow w2 (((w2.plus nS).alloc (.cells (stA V1 E1.now.num) 29)).plus nx) := (by repeat (first | exact Grow.refl _ | refine Grow.andr ?_ | refine Grow.plus ?_ _ | refine Grow.alloc ?_ _ | refine Grow.drew ?_ | refine Grow.drewN ?_ _))
    have hM : Mine (((w2.plus nS).alloc (.cells (stA V1 E1.now.num) 29)).plus nx) own2 (w2.heap.size + nS.objs.size) (stA V1 E1.now.num) := ⟨(by first | (go_simp; done) | (go_simp; omega) | (simp only [Sl.b]; go_simp; omega)), fun h => by have := HL2.out _ h; omega, by go_simp, by go_simp⟩
    have hr3 : RepSt (((w2.plus nS).alloc (.cells (stA V1 E1.now.num) 29)).plus nx) V1 E1.now := HR'.out.grow (by repeat (first | exact Grow.refl _ | refine Grow.andr ?_ | refine Grow.plus ?_ _ | refine Grow.alloc ?_ _ | refine Grow.drew ?_ | refine Grow.drewN ?_ _))
    have hv3 : ∀ k, V1.uses k → ¬ own2 k := fun k hk h => by have h1 := (HU.out k hk).1; have h2 := HL2.out k h; omega
    refine (HRu.out _ hg3).mono ?_
    generalize w2.heap.size + nS.objs.size = q at *
    generalize ((w2.plus nS).alloc (.cells (stA V1 E1.now.num) 29)).plus nx = W3 at *
    rintro e' w4 ⟨rfl, hE4⟩
    obtain ⟨own4, T4⟩ := (Turn.first (HT2.out.em.grow hg3)).step (Grow.refl _) hE4
    have M4 := T4.mine hM
    have hrep4 : RepSt w4 V1 E1.now := hr3.kept T4.kept hv3
    have hgl4 := T4.glob (HGL2.out.grow hg3)
    have hG4 : Grow w w4 := T4.kept.grow_of (HG2.out.trans hg3) (fun k hk => by have := HO2.out k hk; omega)
    have HEr4 := Lib.hid (fun W (g : Grow w4 W) => by have := err_any W b own4 E1 (T4.em.grow g); rw [he1, errV_0] at this; exact this)
    have HSt4 := Lib.hid (fun W (g : Grow w4 W) => by have := estate_any W b own4 E1 (T4.em.grow g) HSM.out; rw [HI1.out.state] at this; exact this)
    have HSame := Lib.hid (fun W (g : Grow w4 W) V2 (r : RepSt W V2 E1.now) => states_same E1.now V2 V1 W r (hrep4.grow g) HSM.out)
    have HSett := Lib.hid (fun W (g : Grow w4 W) => by have := settled_any E1.now V1 W ⟨hrep4.grow g, HI1.out.right, HSM.out, hgl4.base.grow g⟩; rw [hq1] at this; exact this)
    have hbq := M4.blk
    have hfq := M4.free
    have hlq := M4.lt
    have HG4 := Lib.hid hG4
    clear hM hr3 hv3 hg3 hE4 T4 M4 hrep4 hgl4 hG4 HT2 HO2 HL2 HGL2 HSt HEr HRu HR' HU hsz1
    go_wp2_with fail
    go_region_law (refine step_want2 (by rfl) ?_; go_simp; first | (go_at_call 13; refine (HEr4.out _ (by repeat (first | exact Grow.refl _ | refine Grow.andr ?_ | refine Grow.plus ?_ _ | refine Grow.alloc ?_ _ | refine Grow.drew ?_ | refine Grow.drewN ?_ _))).mono ?_; rintro e' w' ⟨rfl, nE, rfl⟩) | (go_at_call 12; refine (HSt4.out _ (by repeat (first | exact Grow.refl _ | refine Grow.andr ?_ | refine Grow.plus ?_ _ | refine Grow.alloc ?_ _ | refine Grow.drew ?_ | refine Grow.drewN ?_ _))).mono ?_; rintro e' w' ⟨V2, rfl, hR2, _, nT, rfl⟩; (try simp only [drew_plus] at hR2); (try simp only [plus_plus] at hR2); have HR2 := Lib.hid hR2; clear hR2) | (go_at_call 14; refine (HSame.out _ (by repeat (first | exact Grow.refl _ | refine Grow.andr ?_ | refine Grow.plus ?_ _ | refine Grow.alloc ?_ _ | refine Grow.drew ?_ | refine Grow.drewN ?_ _)) V2 HR2.out).mono ?_; rintro e' w' ⟨rfl, nU, rfl⟩) | (go_at_call 15; refine (HSett.out _ (by repeat (first | exact Grow.refl _ | refine Grow.andr ?_ | refine Grow.plus ?_ _ | refine Grow.alloc ?_ _ | refine Grow.drew ?_ | refine Grow.drewN ?_ _))).mono ?_; rintro e' w' ⟨rfl, nV, rfl⟩))
    all_goals
      go_wp2_with fail
      go_ret
      exact ⟨rfl, Grow.trans HG4.out (by repeat (first | exact Grow.refl _ | refine Grow.andr ?_ | refine Grow.plus ?_ _ | refine Grow.alloc ?_ _ | refine Grow.drew ?_ | refine Grow.drewN ?_ _))⟩
  · have hb : (checkN S != 0) = true := by simpa using hck
    generalize checkN S = n at *
    clear R GL hsm hck HA
    go_enter Tryz.func3, Tryz.ntmps3
    go_wp2_with (first | (go_at_call 7; refine (HAl.out _ (by repeat (first | exact Grow.refl _ | refine Grow.andr ?_ | refine Grow.plus ?_ _ | refine Grow.alloc ?_ _ | refine Grow.drew ?_ | refine Grow.drewN ?_ _))).mono ?_; rintro e' w' ⟨rfl, nx, rfl⟩) | (go_at_call 8; refine (HLo.out _ (by repeat (first | exact Grow.refl _ | refine Grow.andr ?_ | refine Grow.plus ?_ _ | refine Grow.alloc ?_ _ | refine Grow.drew ?_ | refine Grow.drewN ?_ _))).mono ?_; rintro e' w' ⟨rfl, nx, rfl⟩) | (go_at_call 9; refine (HRef.out _ (by repeat (first | exact Grow.refl _ | refine Grow.andr ?_ | refine Grow.plus ?_ _ | refine Grow.alloc ?_ _ | refine Grow.drew ?_ | refine Grow.drewN ?_ _))).mono ?_; rintro e' w' ⟨rfl, nx, rfl⟩))
    go_ret
    exact ⟨rfl, (by repeat (first | exact Grow.refl _ | refine Grow.andr ?_ | refine Grow.plus ?_ _ | refine Grow.alloc ?_ _ | refine Grow.drew ?_ | refine Grow.drewN ?_ _))⟩
end Go.Proofs.YtibmnofpoenonaaGreatDoor
