/-
  The law EmitRuns, walked.
-/
import Derived.Test.YtkbghjfagnjpoaaGreatDoorMRnB
import Derived.Test.YtkbghjfagnjpoaaGreatDoorMInv13
import Derived.Test.YtkbghjfagnjpoaaGreatDoorMAlive19
import Derived.Test.YtkbghjfagnjpoaaGreatDoorMIs19
import Derived.Test.YtkbghjfagnjpoaaGreatDoorMRefChk
namespace Go.Proofs.YtkbghjfagnjpoaaGreatDoor
open Go Go.RowKit Go.Shelf

@[go_sem ↓] theorem load_Act (ρ : Operand → Value) (dst : Option Tmp) (x : Operand) (ty : TypeId) (pos : String) (after : Array Edge) (guard : Option (Nat × Bool)) :
    execOp ρ { dst, op := .load 51 x, type := ty, pos, after, guard } = ldRow 51 (ρ x) := rfl
@[go_sem ↓] theorem store_Act (ρ : Operand → Value) (dst : Option Tmp) (x y : Operand) (ty : TypeId) (pos : String) (after : Array Edge) (guard : Option (Nat × Bool)) :
    execOp ρ { dst, op := .store 51 x y, type := ty, pos, after, guard } = stRow 51 (ρ x) (ρ y) := rfl
@[go_sem] theorem run_load_Act (w : World) (b o : Nat) (h : o + 4 ≤ (w.blk b).size) : (ldRow 51 (.pointer (some ⟨b, o, none⟩))).run Tryz.prog w = .ok (.value (.agg (sub (w.blk b) o 4))) w :=
  run_ldSub w b o 51 4 (by kernel_rfl) (by kernel_rfl) h (by omega)
@[go_sem] theorem run_store_Act (w : World) (b : Nat) (cs : Array Value) (h : (w.blk b).size = 4) (hc : cs.size = 4) (h1 : oneCells cs = true) (hf : w.free b = true) : (stRow 51 (.pointer (some ⟨b, 0, none⟩)) (.agg cs)).run Tryz.prog w = .ok .skip (w.setRow b cs) :=
  run_stRow w b 51 4 _ (by kernel_rfl) h hc (by omega) hf h1
@[go_sem] theorem indexAt_acts (w : World) (s : Sl) (q : IntKind) (i : Int) (h0 : 0 ≤ i) (h1 : i < s.n) : (Instr.indexAt 45 s.val (.int q i)).run Tryz.prog w = .ok (.pointer (some ⟨s.b, s.o + i.toNat * 4, none⟩)) w :=
  run_indexAt_sl w Tryz.underlying45 (fun w => (by kernel_rfl : (sizeOf 51).run Tryz.prog w = .ok 4 w)) s q i h0 h1
theorem rep_late {X : World} {o p : Obj} {n : Ext} {V : SV} {S : St} (h : RepSt ((X.alloc o).plus n) V S) (hu : ∀ b, V.uses b → X.heap.size < b) : RepSt ((X.alloc p).plus n) V S :=
  h.off12 (Off.plus (Off.base X _ _ X.heap.size rfl) _) (fun hb => by have := hu _ hb; omega)
theorem row4r {l : List (List Int)} {i : Nat} (h : (rowAt l i).length = 4) : ∃ k a b c, rowAt l i = [k, a, b, c] := by
  match hr : rowAt l i, h with
  | [k, a, b, c], _ => exact ⟨k, a, b, c, rfl⟩
set_option maxRecDepth 100000 in
set_option maxHeartbeats 8000000 in
theorem runsE_law (S : St) (V : SV) (w : World) (R : RepSt w V S) (GL : GlobE w (fun k => w.heap.size ≤ k)) (HA : ∀ W, Grow w W → Calls Tryz.prog 11 #[] W fun e w' => e = .returned (.bool true) ∧ Grow W w')
    (sd : Sl) (draws : List Int) (RD : Ints w sd draws) (hsd : sd.n ≤ 9223372036854775807) (sa : Sl) (acts : List (List Int)) (RA : Rows' w sa 4 acts ∧ ∀ i j, i < acts.length → j < 4 → gt (rowAt acts i) j ≤ 9223372036854775807) (hsa : sa.n ≤ 9223372036854775807) :
    Calls Tryz.prog 5 #[.agg (stA V S.num), sd.val, sa.val] w fun e w' => e = .returned (.bool true) ∧ Grow w w' := by
  obtain ⟨RA, hin⟩ := RA
  have HAl := Lib.hid HA
  have HLo := Lib.hid (fun W (g : Grow w W) => long19_any S V W (R.grow g) sd sa hsd hsa)
  cases hl : long19B S sd.n sa.n with
  | true =>
    rw [hl] at HLo
    clear R GL hl HA RA hsa RD hsd hin
    go_enter Tryz.func5, Tryz.ntmps5
    go_wp2_with (first | (go_at_call 11; refine (HAl.out _ grI).mono ?_; rintro e' w' ⟨rfl, nx, rfl⟩) | (go_at_call 12; refine (HLo.out _ grI).mono ?_; rintro e' w' ⟨rfl, nx, rfl⟩))
    go_ret
    exact ⟨rfl, grI⟩
  | false =>
  have hl2 := hl
  unfold long19B at hl2
  simp only [Bool.or_eq_false_iff, decide_eq_false_iff_not] at hl2
  have hsm := long_small 30 hl2.1
  have hSm := hsm.small (show 40 ≤ 1048576 by omega)
  have ha20 : sa.n ≤ 20 := by omega
  have hd5 : draws.length ≤ 5000 := by have := RD.len; omega
  rw [hl] at HLo
  have HFine : Hid (checkN S = 0 → Fine S) := fun hc => ((checkN_zero S).1 hc).fine (fun i hi => R.objs.wid i hi)
  have HOut : Hid (OutT S draws 0 (Em.new S draws)) := by
    by_cases hc : checkN S = 0
    · exact new_told hc draws
    · exact Or.inl (new_err hc draws)
  have HCN : Hid (checkN S ≠ 0 → (Em.new S draws).err ≠ 0) := fun h => new_err h draws
  have HNew := Lib.hid (fun W (g : Grow w W) => new_any S V W (R.grow g) hSm (GL.base.grow g) sd draws (RD.grow g) (by omega))
  have hN := RA.len
  have HRA := Lib.hid RA
  have HIN := Lib.hid hin
  have HGL := Lib.hid GL
  have HR := Lib.hid R
  have HSm := Lib.hid hSm
  clear hl hl2 HA R GL hSm hsm RA hsa RD hsd hin
  generalize Em.new S draws = E0 at *
  go_enter Tryz.func5, Tryz.ntmps5
  go_wp2_with (first | (go_at_call 11; refine (HAl.out _ grI).mono ?_; rintro e' w' ⟨rfl, m1, rfl⟩) | (go_at_call 12; refine (HLo.out _ grI).mono ?_; rintro e' w' ⟨rfl, m2, rfl⟩) | (go_at_call 14; refine (HNew.out _ grI).mono ?_; rintro e' w1 ⟨b, own, rfl, hem, hown, nN, rfl⟩; have HEM := Lib.hid hem; have HOW := Lib.hid hown; clear hem hown))
  have hem := HEM.out
  have how := HOW.out
  (try simp only [drew_plus] at hem); (try simp only [plus_plus] at hem)
  have hownw : ∀ k, own k → w.heap.size < k := fun k hk => by
    have h1 := (how k hk).1
    simp only [plus_size, alloc_size'] at h1
    omega
  have hgW : Grow w ((w.alloc (.cells (stA V S.num) 29)).plus ((m1.and m2).and nN)) := grI
  have hqb : ((w.alloc (.cells (stA V S.num) 29)).plus ((m1.and m2).and nN)).blk w.heap.size = stA V S.num := by go_simp
  have hqf : ((w.alloc (.cells (stA V S.num) 29)).plus ((m1.and m2).and nN)).free w.heap.size = true := by go_simp
  have hql : w.heap.size < ((w.alloc (.cells (stA V S.num) 29)).plus ((m1.and m2).and nN)).heap.size := (by first | (go_simp; done) | (go_simp; omega) | (simp only [Sl.b]; go_simp; omega))
  clear HEM HOW how HNew HAl HLo
  generalize (w.alloc (.cells (stA V S.num) 29)).plus ((m1.and m2).and nN) = W1 at *
  have HGW := Lib.hid hgW
  have HEM := Lib.hid hem
  have HOW := Lib.hid hownw
  have HQB := Lib.hid hqb
  have HQF := Lib.hid hqf
  have HQL := Lib.hid hql
  have HGLW := Lib.hid (HGL.out.kept (own' := own) (hgW.kept _) (fun k hk => Or.inl (Nat.le_of_lt (hownw k hk))))
  clear hem hownw hqb hqf hql hgW
  go_loopw [27] (fun i wr => ∃ (k : Nat) (ownk : Nat → Prop) (Ek : Em), k ≤ acts.length ∧ i = .int .i64 k ∧ Turn W1 b own Ek wr ownk ∧ OutT S draws (1000 * k) Ek ∧ Hid (checkN S ≠ 0 → Ek.err ≠ 0)) (fun i _ => acts.length - (intOf i).toNat)
  case atStart => exact ⟨0, own, E0, by omega, rfl, Turn.first HEM.out, HOut.out, HCN⟩
  case round =>
    obtain ⟨k, ownk, Ek, hk, rfl, hTu, hO, hC⟩ := hrel
    by_cases hlt : k < acts.length
    · have hgr := (hTu.kept.grow_of HGW.out (fun k hk => Nat.le_of_lt (HOW.out k hk)))
      obtain ⟨qb, qw, qsz, qsub, _⟩ := (HRA.out.grow hgr).at (by omega) k hlt
      obtain ⟨a0, a1, a2, a3, hrow⟩ := row4r qw
      have hi1 : a1 ≤ 9223372036854775807 := by have := HIN.out k 1 hlt (by omega); rw [hrow] at this; exact this
      rw [hrow] at qsub qw
      have HTu := Lib.hid hTu
      clear hrow hgr
      by_cases he : Ek.err = 0
      · have hF : Fine S := by
          refine HFine.out ?_
          by_cases h0 : checkN S = 0
          · exact h0
          · exact absurd he (hC.out h0)
        have hT : Told S draws (1000 * k) Ek := hO.resolve_left (fun h => h he)
        have HDo := Lib.hid (fun W (g : Grow wr W) => do19_any W b ownk Ek (HTu.out.em.grow g) (hT.rdy hF (by omega) (by omega) ((HTu.out.glob HGLW.out).grow g)) a0 a1 a2 a3 hi1)
        have HAct := Lib.hid (hT.act hF a0 a1 a2 a3)
        have HC2 : Hid (checkN S ≠ 0 → (Ek.act a0 a1 a2 a3).err ≠ 0) := fun h => absurd he (hC.out h)
        clear hTu hO hT he hC hF
        generalize Ek.act a0 a1 a2 a3 = E5 at *
        go_wp2_with fail
        refine (HDo.out _ grI).mono ?_
        rintro e' w5 ⟨⟨v, rfl⟩, hE⟩
        obtain ⟨own5, T5⟩ := HTu.out.step grI hE
        have HT5 := Lib.hid T5
        clear hE T5 HDo
        go_wp2_with fail
        go_roundw
        case rel => exact ⟨k + 1, own5, E5, by omega, by go_num, HT5.out.grow grI, HAct.out.mono (by omega), HC2⟩
        case measure => simp [intOf]; omega
      · have HDo := Lib.hid (fun W (g : Grow wr W) => do19_err W b ownk Ek (HTu.out.em.grow g) he a0 a1 a2 a3)
        have HH5 : Hid ((Ek.actBad a0).err ≠ 0) := by rw [Hid, actBad_errE]; exact he
        clear hTu hO he hC
        generalize Ek.actBad a0 = E5 at *
        go_wp2_with fail
        refine (HDo.out _ grI).mono ?_
        rintro e' w5 ⟨rfl, hE⟩
        obtain ⟨own5, T5⟩ := HTu.out.step grI hE
        have HT5 := Lib.hid T5
        clear hE T5 HDo
        go_wp2_with fail
        go_roundw
        case rel => exact ⟨k + 1, own5, E5, by omega, by go_num, HT5.out.grow grI, Or.inl HH5.out, fun _ => HH5.out⟩
        case measure => simp [intOf]; omega
    · have HG6 := Lib.hid (hTu.kept.grow_of HGW.out (fun k hk => Nat.le_of_lt (HOW.out k hk)))
      have hq6 : wr.blk w.heap.size = stA V S.num := by rw [hTu.kept.blk _ HQL.out (fun h => by have := HOW.out _ h; omega)]; exact HQB.out
      have hf6 : wr.free w.heap.size = true := by rw [hTu.kept.free _ HQL.out (fun h => by have := HOW.out _ h; omega)]; exact HQF.out
      have hz6 : w.heap.size < wr.heap.size := Nat.lt_of_lt_of_le HQL.out hTu.kept.size
      have hcc6 := cell_of_blk hf6 hq6
      by_cases he : Ek.err = 0
      · have hF : Fine S := by
          refine HFine.out ?_
          by_cases h0 : checkN S = 0
          · exact h0
          · exact absurd he (hC.out h0)
        have hT : Told S draws (1000 * k) Ek := hO.resolve_left (fun h => h he)
        have hs6 : Ek.state = Ek.now := by unfold Em.state; rw [if_neg (by rw [he]; simp)]
        have hFk := hT.fine hF
        have hbk := (hF.run Ek.evs hT.evs hT.run).2
        have hrun := hT.run
        have hlen : Ek.evs.length ≤ 65536 := by have := hT.len; omega
        have HEr := Lib.hid (fun W (g : Grow wr W) => by have := err_any W b ownk _ (hTu.em.grow g); rw [he, errV_0] at this; exact this)
        have HEv := Lib.hid (fun W (g : Grow wr W) => by have := eevents_any W b ownk _ (hTu.em.grow g) (by omega); rw [if_neg (by rw [he]; simp)] at this; exact this)
        have HSt := Lib.hid (fun W (g : Grow wr W) => by have := estate_any W b ownk _ (hTu.em.grow g) (hFk.smallN.small (by omega)); rw [hs6] at this; exact this)
        have hRw := HR.out.grow HG6.out
        have HRun1 := Lib.hid (fun W (g : Grow wr W) sl (RL : Rows' W sl 6 Ek.evs) => run13_any S V W (hRw.grow g) 400 hF.smallN sl Ek.evs RL (by omega) Ek.now hrun)
        have HRun2 := Lib.hid (fun W V' (R' : RepSt W V' Ek.now) sl (RL : Rows' W sl 6 (invR Ek.evs)) => run13_any Ek.now V' W R' 400 hFk.smallN sl (invR Ek.evs) RL (by rw [invR_len]; omega) S hbk)
        have HInv := Lib.hid (fun W sl (RL : Rows' W sl 6 Ek.evs) => inv13_any W sl Ek.evs RL (by omega))
        have HSm1 := Lib.hid (fun W V1 V2 (R1 : RepSt W V1 Ek.now) (R2 : RepSt W V2 Ek.now) => states_same Ek.now V1 V2 W R1 R2 (hFk.smallN.small (by omega)))
        have HSm2 := Lib.hid (fun W (g : Grow wr W) V1 (R1 : RepSt W V1 S) => states_same S V1 V W R1 (hRw.grow g) HSm.out)
        clear hTu hO hC hF hT hs6 hFk hbk hrun he hRw
        generalize hT : Ek.now = T at *
        generalize hL : Ek.evs = L at *
        clear hT hL
        go_wp2_with (first | (go_at_call 16; refine (HEr.out _ grI).mono ?_; rintro e' w' ⟨rfl, nx, rfl⟩) | (go_at_call 18; refine (HEv.out _ grI).mono ?_; rintro e' w' ⟨se, rfl, hRe, n1, rfl⟩; (try simp only [drew_plus] at hRe); (try simp only [plus_plus] at hRe); have HRe := Lib.hid hRe; clear hRe) | (go_at_call 19; refine (HRun1.out _ grI se (HRe.out.grow grI)).mono ?_; rintro e' w' ⟨V1, rfl, hR1, hO1, n2, rfl⟩; (try simp only [drew_plus] at hR1); (try simp only [plus_plus] at hR1); have HR1 := Lib.hid hR1; clear hR1 hO1))
        obtain ⟨q1, hq1⟩ : ∃ q, q = wr.heap.size + ((nx.and n1).and n2).objs.size := ⟨_, rfl⟩
        have hgX : Grow wr ((wr.plus ((nx.and n1).and n2)).alloc (.cells (stA V1 T.num) 29)) := grI
        have hb1 : (((wr.plus ((nx.and n1).and n2)).alloc (.cells (stA V1 T.num) 29))).blk q1 = stA V1 T.num := by rw [hq1]; go_simp
        have hf1 : (((wr.plus ((nx.and n1).and n2)).alloc (.cells (stA V1 T.num) 29))).free q1 = true := by rw [hq1]; go_simp
        have hl1 : q1 < (((wr.plus ((nx.and n1).and n2)).alloc (.cells (stA V1 T.num) 29))).heap.size := by rw [hq1]; go_simp
        have hr1 : RepSt (((wr.plus ((nx.and n1).and n2)).alloc (.cells (stA V1 T.num) 29))) V1 T := HR1.out.grow grI
        have hre : Rows' (((wr.plus ((nx.and n1).and n2)).alloc (.cells (stA V1 T.num) 29))) se 6 L := HRe.out.grow grI
        have hb0 : (((wr.plus ((nx.and n1).and n2)).alloc (.cells (stA V1 T.num) 29))).blk w.heap.size = stA V S.num := by rw [(hgX.kept (fun _ => False)).blk _ hz6 (fun h => h)]; exact hq6
        have hf0 : (((wr.plus ((nx.and n1).and n2)).alloc (.cells (stA V1 T.num) 29))).free w.heap.size = true := by rw [(hgX.kept (fun _ => False)).free _ hz6 (fun h => h)]; exact hf6
        have hl0 : w.heap.size < (((wr.plus ((nx.and n1).and n2)).alloc (.cells (stA V1 T.num) 29))).heap.size := Nat.lt_of_lt_of_le hz6 hgX.size
        rw [← hq1]
        clear hq1 HR1 HRe hq6 hf6 hcc6 HEr HEv HRun1
        generalize ((wr.plus ((nx.and n1).and n2)).alloc (.cells (stA V1 T.num) 29)) = X at *
        have HGX := Lib.hid hgX
        have HR1 := Lib.hid hr1
        have HRe := Lib.hid hre
        have hc1 := cell_of_blk hf1 hb1
        have hc0 := cell_of_blk hf0 hb0
        clear hgX hr1 hre
        go_region_held3 (fun W => W.blk q1 = stA V1 T.num) (simp [go_sem, *]) (first | (go_at_call 17; refine (HSt.out _ (HGX.out.trans grI)).mono ?_; rintro e' w' ⟨V2, rfl, hR2, _, n3, rfl⟩; (try simp only [drew_plus] at hR2); (try simp only [plus_plus] at hR2); have HR2 := Lib.hid hR2; clear hR2) | (go_at_call 20; refine (HSm1.out _ V1 V2 (HR1.out.grow grI) (HR2.out.grow grI)).mono ?_; rintro e' w' ⟨rfl, n4, rfl⟩))
        all_goals
          go_wp2_with fail
          go_region_held3 (fun W => W.blk q1 = stA V1 T.num) (simp [go_sem, *]) (first | (go_at_call 21; refine (HInv.out _ se (HRe.out.grow grI)).mono ?_; rintro e' w' ⟨si, rfl, hRi, _, n5, rfl⟩; (try simp only [drew_plus] at hRi); (try simp only [plus_plus] at hRi); have HRi := Lib.hid hRi; clear hRi) | (go_at_call 19; refine (HRun2.out _ V1 (HR1.out.grow grI) si (HRi.out.grow grI)).mono ?_; rintro e' w' ⟨V3, rfl, hR3, hO3, n6, rfl⟩; (try simp only [drew_plus] at hR3); (try simp only [plus_plus] at hR3); (try simp only [drew_plus] at hO3); (try simp only [plus_plus] at hO3); have HR3 := Lib.hid hR3; have HO3 := Lib.hid hO3; clear hR3 hO3))
          all_goals
            go_wp2_with fail
            refine Calls.mono (HSm2.out _ ?_ V3 ?_) ?_
            · exact HGX.out.trans grI
            · first
                | (refine rep_late HR3.out fun b hb => ?_
                   have := (HO3.out b hb).1
                   simp only [plus_size, alloc_size'] at this ⊢
                   omega)
                | (refine HR3.out.grow ?_; exact grI)
            rintro e' w' ⟨rfl, n7, rfl⟩
            go_wp2_with fail
            go_ret
            exact ⟨rfl, HG6.out.trans (HGX.out.trans grI)⟩
      · have HH := Lib.hid he
        have HEr := Lib.hid (fun W (g : Grow wr W) => by have := err_any W b ownk _ (hTu.em.grow g); rw [errV_is he] at this; exact this)
        clear hTu hO he hC
        go_wp2_with (go_at_call 16; refine (HEr.out _ grI).mono ?_; rintro e' w' ⟨rfl, nx, rfl⟩)
        go_ret
        exact ⟨rfl, HG6.out.trans grI⟩
end Go.Proofs.YtkbghjfagnjpoaaGreatDoor
