/-
  The walk of the law CheckEnds.
-/
import Derived.Test.YtibmnofpoenonaaGreatDoorLaw20
namespace Go.Proofs.YtibmnofpoenonaaGreatDoor
open Go Go.RowKit Go.Shelf

/-- What stands behind rounds with a fuel that is enough. -/
structure EndsTo (S : St) (E1 : Em) (k : Int) : Prop where
  err : E1.err = 0
  right : Right E1.now
  quiet : quietB E1.now = true
  many : E1.now.objs.length = S.objs.length
  le : k ≤ S.objs.length + 1
  over : S.num 24 ≠ 0 → E1.now = S ∧ k = 0
  goes : S.num 24 = 0 → E1.now.num 24 = resultN S ∧ (∀ i, i < 18 → E1.now.num i = S.num i) ∧ (resultN S ≠ 0 → k = 1 ∧ E1.now.list 8 = S.list 8)
theorem ends_plain {S : St} (h : Right S) (hw : ∀ i, i < S.objs.length → (rowAt S.objs i).length = 18) :
    ∃ (E1 : Em) (k : Int), runG ((S.list 8).length + 2) ⟨S, [], [], [], 0⟩ (S.objs.length + 1) 0 = (E1, k) ∧ EndsTo S E1 k := by
  have hc := new_ck h hw
  have h8 := h.zon.len_le (z := 8) (by omega)
  by_cases h24 : S.num 24 = 0
  · by_cases hr : resultN S = 0
    · obtain ⟨E1, k, c1, c2, c3, c4, c5, _, c7⟩ := run_dies ((S.list 8).length + 2) ⟨S, [], [], [], 0⟩ (S.objs.length + 1) 0 hc hr (by show (S.list 8).length < _; omega)
      have c5' : k + ((E1.now.list 8).length : Int) ≤ 0 + (S.list 8).length := c5
      rcases c7 with ⟨q, e⟩ | ⟨q, hf, e⟩
      · exact ⟨E1, k, e, c1.err, c1.right, q, c3, by omega, fun hn => absurd h24 hn, fun _ => ⟨by rw [c2, hr]; exact h24, fun i _ => by rw [c2], fun hn => absurd hr hn⟩⟩
      · omega
    · have e := run_result hc h24 hr (S.list 8).length (S.objs.length + 1) 0 (by omega)
      have hin := result_in S
      obtain ⟨e2, R⟩ := over_good hc h24 (resultN S) (by omega) hin.2
      refine ⟨_, _, e, R.err, R.right, R.quiet, R.many, by omega, fun hn => absurd h24 hn, fun _ => ⟨?_, fun i hi => ?_, fun _ => ⟨by omega, ?_⟩⟩⟩
      · show (Em.setGame ⟨S, [], [], [], 0⟩ 6 (resultN S)).now.num 24 = _
        rw [e2]; exact upd_same S.num 24 (resultN S)
      · show (Em.setGame ⟨S, [], [], [], 0⟩ 6 (resultN S)).now.num i = _
        rw [e2]; show upd S.num 24 _ i = _; unfold upd; rw [if_neg (by omega)]
      · show (Em.setGame ⟨S, [], [], [], 0⟩ 6 (resultN S)).now.list 8 = _
        rw [e2]; rfl
  · have hq : quietB S = true := quiet_game h24
    exact ⟨_, _, run_again rfl hq ((S.list 8).length + 1) _ 0, rfl, h, hq, rfl, by omega, fun _ => ⟨rfl, rfl⟩, fun hn => absurd hn h24⟩
set_option maxRecDepth 100000 in
set_option maxHeartbeats 8000000 in
theorem ends_any (S : St) (V : SV) (w : World) (R : RepSt w V S) (GL : GlobE w (fun k => w.heap.size ≤ k)) (HA : ∀ W, Grow w W → Calls Tryz.prog 7 #[] W fun e w' => e = .returned (.bool true) ∧ Grow W w') :
    Calls Tryz.prog 5 #[.agg (stA V S.num)] w fun e w' => e = .returned (.bool true) ∧ Grow w w' := by
  have HAl := Lib.hid HA
  have HLo := Lib.hid (fun W (g : Grow w W) => long_any S V 40 (by omega) W (R.grow g))
  have HR := Lib.hid R
  cases hl : longB S 40 with
  | true =>
    rw [hl] at HLo
    clear R GL hl HA
    go_enter Tryz.func5, Tryz.ntmps5
    go_wp2_with (first | (go_at_call 7; refine (HAl.out _ (by repeat (first | exact Grow.refl _ | refine Grow.andr ?_ | refine Grow.plus ?_ _ | refine Grow.alloc ?_ _ | refine Grow.drew ?_ | refine Grow.drewN ?_ _))).mono ?_; rintro e' w' ⟨rfl, nx, rfl⟩) | (go_at_call 8; refine (HLo.out _ (by repeat (first | exact Grow.refl _ | refine Grow.andr ?_ | refine Grow.plus ?_ _ | refine Grow.alloc ?_ _ | refine Grow.drew ?_ | refine Grow.drewN ?_ _))).mono ?_; rintro e' w' ⟨rfl, nx, rfl⟩))
    go_ret
    exact ⟨rfl, (by repeat (first | exact Grow.refl _ | refine Grow.andr ?_ | refine Grow.plus ?_ _ | refine Grow.alloc ?_ _ | refine Grow.drew ?_ | refine Grow.drewN ?_ _))⟩
  | false =>
  have hsm := long_smallN hl
  have HRef := Lib.hid (fun W (g : Grow w W) => refCheck_any S V W (R.grow g) (hsm.small (by omega)))
  rw [hl] at HLo
  clear hl
  by_cases hck : checkN S = 0
  · rw [hck] at HRef
    have hRt : Right S := (checkN_zero S).1 hck
    obtain ⟨E1, k, hE1, hI1⟩ := ends_plain hRt R.objs.wid
    have HNew := Lib.hid (fun W (g : Grow w W) => by have := new_any S V W (R.grow g) (hsm.small (by omega)) (GL.base.grow g) .nil [] (Ints.nil W) (by simp); rw [new_is hck] at this; exact this)
    have HFu := Lib.hid (fun W (g : Grow w W) => fuel_any S V W (R.grow g) (hsm.small (by omega)))
    have HI0 := Lib.hid (RunI.of (new_ck hRt R.objs.wid) ((S.list 8).length + 2) (Nat.le_refl _))
    have h8 : (S.list 8).length ≤ 50 := hsm.list 8 (by omega)
    have HSM0 := Lib.hid (hsm.small (show 50 ≤ 1048576 by omega))
    have HGL := Lib.hid GL
    have HE1 := Lib.hid hE1
    have HI1 := Lib.hid hI1
    clear R GL hck hsm HA hRt hE1 hI1
    go_enter Tryz.func5, Tryz.ntmps5
    go_wp2_with (first | (go_at_call 7; refine (HAl.out _ (by repeat (first | exact Grow.refl _ | refine Grow.andr ?_ | refine Grow.plus ?_ _ | refine Grow.alloc ?_ _ | refine Grow.drew ?_ | refine Grow.drewN ?_ _))).mono ?_; rintro e' w' ⟨rfl, nA, rfl⟩) | (go_at_call 8; refine (HLo.out _ (by repeat (first | exact Grow.refl _ | refine Grow.andr ?_ | refine Grow.plus ?_ _ | refine Grow.alloc ?_ _ | refine Grow.drew ?_ | refine Grow.drewN ?_ _))).mono ?_; rintro e' w' ⟨rfl, nL, rfl⟩) | (go_at_call 9; refine (HRef.out _ (by repeat (first | exact Grow.refl _ | refine Grow.andr ?_ | refine Grow.plus ?_ _ | refine Grow.alloc ?_ _ | refine Grow.drew ?_ | refine Grow.drewN ?_ _))).mono ?_; rintro e' w' ⟨rfl, nX, rfl⟩) | (go_at_call 10; refine (HNew.out _ (by repeat (first | exact Grow.refl _ | refine Grow.andr ?_ | refine Grow.plus ?_ _ | refine Grow.alloc ?_ _ | refine Grow.drew ?_ | refine Grow.drewN ?_ _))).mono ?_; rintro e' w1 ⟨b, own, rfl, hem, hown, nN, rfl⟩; have HEM := Lib.hid hem; have HOWN := Lib.hid hown; clear hem hown) | (go_at_call 21; refine (HFu.out _ (by repeat (first | exact Grow.refl _ | refine Grow.andr ?_ | refine Grow.plus ?_ _ | refine Grow.alloc ?_ _ | refine Grow.drew ?_ | refine Grow.drewN ?_ _))).mono ?_; rintro e' w' ⟨rfl, nF, rfl⟩))
    have hem1 : Emt ((w.alloc (.cells (stA V S.num) 29)).plus ((((nA.and nL).and nX).and nN).and nF)) b own ⟨S, [], [], [], 0⟩ := by have := HEM.out; rw [plus_plus] at this; rw [← plus_plus]; exact this.grow (by repeat (first | exact Grow.refl _ | refine Grow.andr ?_ | refine Grow.plus ?_ _ | refine Grow.alloc ?_ _ | refine Grow.drew ?_ | refine Grow.drewN ?_ _))
    have hg1 : Grow w ((w.alloc (.cells (stA V S.num) 29)).plus ((((nA.and nL).and nX).and nN).and nF)) := (by repeat (first | exact Grow.refl _ | refine Grow.andr ?_ | refine Grow.plus ?_ _ | refine Grow.alloc ?_ _ | refine Grow.drew ?_ | refine Grow.drewN ?_ _))
    have hown1 : ∀ k, own k → w.heap.size + 1 ≤ k := fun k hk => by have := (HOWN.out k hk).1; simp only [plus_size, alloc_size'] at this; omega
    have hgl1 := globE_new HGL.out hg1 (fun k hk => by have := hown1 k hk; omega)
    have hM : Mine ((w.alloc (.cells (stA V S.num) 29)).plus ((((nA.and nL).and nX).and nN).and nF)) own w.heap.size (stA V S.num) := ⟨(by first | (go_simp; done) | (go_simp; omega) | (simp only [Sl.b]; go_simp; omega)), fun h => by have := hown1 _ h; omega, by go_simp, by go_simp⟩
    refine (runs_any _ b own _ hem1 hgl1 _ HI0.out (by omega) _).mono ?_
    generalize (w.alloc (.cells (stA V S.num) 29)).plus ((((nA.and nL).and nX).and nN).and nF) = W1 at *
    rw [HE1.out]
    rintro e' w2 ⟨rfl, hE⟩
    obtain ⟨own2, T2⟩ := (Turn.first hem1).step (Grow.refl _) hE
    have hgl2 := T2.glob hgl1
    have hg2 : Grow w w2 := T2.kept.grow_of hg1 (fun k hk => by have := hown1 k hk; omega)
    have hsm1 := HI1.out.right.smallN.small (show 400 ≤ 1048576 by omega)
    have HST : Hid (E1.state = E1.now) := by show E1.state = E1.now; unfold Em.state; rw [if_neg (by rw [HI1.out.err]; simp)]
    have M2 := T2.mine hM
    have HFu2 := Lib.hid (fun W (g : Grow w2 W) => HFu.out W (hg2.trans g))
    have HSt := Lib.hid (fun W (g : Grow w2 W) => by have := estate_any W b own2 E1 (T2.em.grow g) hsm1; rw [HST.out] at this; exact this)
    have HEr := Lib.hid (fun W (g : Grow w2 W) => by have := err_any W b own2 E1 (T2.em.grow g); rw [HI1.out.err, errV_0] at this; exact this)
    have HSett := Lib.hid (fun W (g : Grow w2 W) V1 (r : RepSt W V1 E1.now) => by have := settled_any E1.now V1 W ⟨r, HI1.out.right, hsm1, hgl2.base.grow g⟩; rw [HI1.out.quiet] at this; exact this)
    have HR2 := Lib.hid (HR.out.grow hg2)
    have HSame := Lib.hid (fun W (g : Grow w2 W) V1 (r : RepSt W V1 S) => states_same S V V1 W (HR2.out.grow g) r HSM0.out)
    have HL := Lib.hid (fun W p => lost_any S V W p)
    have hbq := M2.blk
    have hfq := M2.free
    have hlq := M2.lt
    have hcq := cell_of_blk hfq hbq
    have hnq : ¬ w.heap.size = w2.heap.size := by omega
    have hv : V.objs.n = S.objs.length := HR.out.objs.len
    have hle := HI1.out.le
    have hgt : ¬ (S.objs.length : Int) + 1 < k := by omega
    have HG2 := Lib.hid hg2
    clear hem1 hg1 hown1 hgl1 hM hE T2 hgl2 hg2 hsm1 M2 hle HEM HOWN HLo HRef HAl HNew HFu HE1 HI0 HGL
    go_wp2_with (first | (go_at_call 13; refine (HEr.out _ (by repeat (first | exact Grow.refl _ | refine Grow.andr ?_ | refine Grow.plus ?_ _ | refine Grow.alloc ?_ _ | refine Grow.drew ?_ | refine Grow.drewN ?_ _))).mono ?_; rintro e' w' ⟨rfl, nx, rfl⟩) | (go_at_call 12; refine (HSt.out _ (by repeat (first | exact Grow.refl _ | refine Grow.andr ?_ | refine Grow.plus ?_ _ | refine Grow.alloc ?_ _ | refine Grow.drew ?_ | refine Grow.drewN ?_ _))).mono ?_; rintro e' w' ⟨V1, rfl, hR', _, nS, rfl⟩; have hv1 : V1.objs.n = S.objs.length := hR'.objs.len.trans HI1.out.many; have HR' := Lib.hid hR'; clear hR') | (go_at_call 21; refine (HFu2.out _ (by repeat (first | exact Grow.refl _ | refine Grow.andr ?_ | refine Grow.plus ?_ _ | refine Grow.alloc ?_ _ | refine Grow.drew ?_ | refine Grow.drewN ?_ _))).mono ?_; rintro e' w' ⟨rfl, nF, rfl⟩) | (go_at_call 15; refine (HSett.out _ (by repeat (first | exact Grow.refl _ | refine Grow.andr ?_ | refine Grow.plus ?_ _ | refine Grow.alloc ?_ _ | refine Grow.drew ?_ | refine Grow.drewN ?_ _)) _ (HR'.out.grow (by repeat (first | exact Grow.refl _ | refine Grow.andr ?_ | refine Grow.plus ?_ _ | refine Grow.alloc ?_ _ | refine Grow.drew ?_ | refine Grow.drewN ?_ _)))).mono ?_; rintro e' w' ⟨rfl, nV, rfl⟩))
    refine wp_region_grow (by kernel_rfl) (by kernel_rfl) ?_; (repeat (go_big_quiet_step ( (first | (go_at_call 18; refine Calls.grow2 (HL.out _ _))) ))); refine wpQuiet_nil ?_; rintro _ ⟨nx, rfl⟩
    have hres : resultN S = if lostB S 0 = true ∧ lostB S 1 = true then 3 else if lostB S 0 = true then 2 else if lostB S 1 = true then 1 else 0 := rfl
    clear HFu2 HSt HEr HSett HL HST
    generalize lostB S 0 = b0 at *
    generalize lostB S 1 = b1 at *
    have HRES := Lib.hid hres
    clear hres
    by_cases h24 : S.num 24 = 0
    · obtain ⟨g1, g2, g3⟩ := HI1.out.goes h24
      have hnum : numsL E1.now.num 0 18 = numsL S.num 0 18 := by
        unfold numsL
        apply List.map_congr_left
        intro i hi
        have := List.mem_range.1 hi
        rw [Nat.zero_add]
        exact g2 i this
      have HI := Lib.hid (fun W (g : Grow w2 W) (r : RepSt W V1 E1.now) (hc : resultN S ≠ 0) => ints_same W (V1.list 8) (V.list 8) (S.list 8) (by have := r.list 8 (by omega); rw [(g3 hc).2] at this; exact this) ((HR2.out.grow g).list 8 (by omega)) (by omega))
      have HK : Hid (resultN S ≠ 0 → k = 1) := fun h => (g3 h).1
      clear HI1 g2 g3 HSame HR2
      cases b0 <;> cases b1
      · have hr : resultN S = 0 := by rw [HRES.out]; simp
        rw [hr] at g1
        clear HI HK HRES hr
        go_wp2_with fail
        go_ret
        exact ⟨rfl, Grow.trans HG2.out (by repeat (first | exact Grow.refl _ | refine Grow.andr ?_ | refine Grow.plus ?_ _ | refine Grow.alloc ?_ _ | refine Grow.drew ?_ | refine Grow.drewN ?_ _))⟩
      · have hr : resultN S = 1 := by rw [HRES.out]; simp
        have hk1 : k = 1 := HK.out (by omega)
        have HI2 := Lib.hid (fun W (g : Grow w2 W) (r : RepSt W V1 E1.now) => HI.out W g r (by omega))
        rw [hr] at g1
        clear HI HK HRES hr
        subst hk1
        go_wp2_with (go_at_call 19; refine (HI2.out _ (by repeat (first | exact Grow.refl _ | refine Grow.andr ?_ | refine Grow.plus ?_ _ | refine Grow.alloc ?_ _ | refine Grow.drew ?_ | refine Grow.drewN ?_ _)) (HR'.out.grow (by repeat (first | exact Grow.refl _ | refine Grow.andr ?_ | refine Grow.plus ?_ _ | refine Grow.alloc ?_ _ | refine Grow.drew ?_ | refine Grow.drewN ?_ _)))).mono ?_; rintro e' w' ⟨rfl, nI, rfl⟩)
        go_ret
        exact ⟨rfl, Grow.trans HG2.out (by repeat (first | exact Grow.refl _ | refine Grow.andr ?_ | refine Grow.plus ?_ _ | refine Grow.alloc ?_ _ | refine Grow.drew ?_ | refine Grow.drewN ?_ _))⟩
      · have hr : resultN S = 2 := by rw [HRES.out]; simp
        have hk1 : k = 1 := HK.out (by omega)
        have HI2 := Lib.hid (fun W (g : Grow w2 W) (r : RepSt W V1 E1.now) => HI.out W g r (by omega))
        rw [hr] at g1
        clear HI HK HRES hr
        subst hk1
        go_wp2_with (go_at_call 19; refine (HI2.out _ (by repeat (first | exact Grow.refl _ | refine Grow.andr ?_ | refine Grow.plus ?_ _ | refine Grow.alloc ?_ _ | refine Grow.drew ?_ | refine Grow.drewN ?_ _)) (HR'.out.grow (by repeat (first | exact Grow.refl _ | refine Grow.andr ?_ | refine Grow.plus ?_ _ | refine Grow.alloc ?_ _ | refine Grow.drew ?_ | refine Grow.drewN ?_ _)))).mono ?_; rintro e' w' ⟨rfl, nI, rfl⟩)
        go_ret
        exact ⟨rfl, Grow.trans HG2.out (by repeat (first | exact Grow.refl _ | refine Grow.andr ?_ | refine Grow.plus ?_ _ | refine Grow.alloc ?_ _ | refine Grow.drew ?_ | refine Grow.drewN ?_ _))⟩
      · have hr : resultN S = 3 := by rw [HRES.out]; simp
        have hk1 : k = 1 := HK.out (by omega)
        have HI2 := Lib.hid (fun W (g : Grow w2 W) (r : RepSt W V1 E1.now) => HI.out W g r (by omega))
        rw [hr] at g1
        clear HI HK HRES hr
        subst hk1
        go_wp2_with (go_at_call 19; refine (HI2.out _ (by repeat (first | exact Grow.refl _ | refine Grow.andr ?_ | refine Grow.plus ?_ _ | refine Grow.alloc ?_ _ | refine Grow.drew ?_ | refine Grow.drewN ?_ _)) (HR'.out.grow (by repeat (first | exact Grow.refl _ | refine Grow.andr ?_ | refine Grow.plus ?_ _ | refine Grow.alloc ?_ _ | refine Grow.drew ?_ | refine Grow.drewN ?_ _)))).mono ?_; rintro e' w' ⟨rfl, nI, rfl⟩)
        go_ret
        exact ⟨rfl, Grow.trans HG2.out (by repeat (first | exact Grow.refl _ | refine Grow.andr ?_ | refine Grow.plus ?_ _ | refine Grow.alloc ?_ _ | refine Grow.drew ?_ | refine Grow.drewN ?_ _))⟩
    · obtain ⟨g1, g2⟩ := HI1.out.over h24
      subst g2
      rw [g1] at HR' 
      have hn : E1.now.num = S.num := by rw [g1]
      rw [hn]
      clear HI1 g1 hn HRES
      cases b0 <;> cases b1
      all_goals
        go_wp2_with (go_at_call 14; refine (HSame.out _ (by repeat (first | exact Grow.refl _ | refine Grow.andr ?_ | refine Grow.plus ?_ _ | refine Grow.alloc ?_ _ | refine Grow.drew ?_ | refine Grow.drewN ?_ _)) _ (HR'.out.grow (by repeat (first | exact Grow.refl _ | refine Grow.andr ?_ | refine Grow.plus ?_ _ | refine Grow.alloc ?_ _ | refine Grow.drew ?_ | refine Grow.drewN ?_ _)))).mono ?_; rintro e' w' ⟨rfl, nI, rfl⟩)
        go_ret
        exact ⟨rfl, Grow.trans HG2.out (by repeat (first | exact Grow.refl _ | refine Grow.andr ?_ | refine Grow.plus ?_ _ | refine Grow.alloc ?_ _ | refine Grow.drew ?_ | refine Grow.drewN ?_ _))⟩
  · have hb : (checkN S != 0) = true := by simpa using hck
    generalize checkN S = n at *
    clear R GL hsm hck HA
    go_enter Tryz.func5, Tryz.ntmps5
    go_wp2_with (first | (go_at_call 7; refine (HAl.out _ (by repeat (first | exact Grow.refl _ | refine Grow.andr ?_ | refine Grow.plus ?_ _ | refine Grow.alloc ?_ _ | refine Grow.drew ?_ | refine Grow.drewN ?_ _))).mono ?_; rintro e' w' ⟨rfl, nx, rfl⟩) | (go_at_call 8; refine (HLo.out _ (by repeat (first | exact Grow.refl _ | refine Grow.andr ?_ | refine Grow.plus ?_ _ | refine Grow.alloc ?_ _ | refine Grow.drew ?_ | refine Grow.drewN ?_ _))).mono ?_; rintro e' w' ⟨rfl, nx, rfl⟩) | (go_at_call 9; refine (HRef.out _ (by repeat (first | exact Grow.refl _ | refine Grow.andr ?_ | refine Grow.plus ?_ _ | refine Grow.alloc ?_ _ | refine Grow.drew ?_ | refine Grow.drewN ?_ _))).mono ?_; rintro e' w' ⟨rfl, nx, rfl⟩))
    go_ret
    exact ⟨rfl, (by repeat (first | exact Grow.refl _ | refine Grow.andr ?_ | refine Grow.plus ?_ _ | refine Grow.alloc ?_ _ | refine Grow.drew ?_ | refine Grow.drewN ?_ _))⟩
end Go.Proofs.YtibmnofpoenonaaGreatDoor
