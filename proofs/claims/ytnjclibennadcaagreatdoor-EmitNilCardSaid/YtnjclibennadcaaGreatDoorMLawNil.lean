/-
  The walk of the law EmitNil.
-/
import Derived.Test.YtnjclibennadcaaGreatDoorMEmNil
import Derived.Test.YtnjclibennadcaaGreatDoorMAlive19
import Derived.Test.YtnjclibennadcaaGreatDoorMRefChk
import Derived.Test.YtnjclibennadcaaGreatDoorMEmNew
import Derived.Test.YtnjclibennadcaaGreatDoorMSame
namespace Go.Proofs.YtnjclibennadcaaGreatDoor
open Go Go.RowKit Go.Shelf

@[go_sem ↓] theorem load_Act (ρ : Operand → Value) (dst : Option Tmp) (x : Operand) (ty : TypeId) (pos : String) (after : Array Edge) (guard : Option (Nat × Bool)) :
    execOp ρ { dst, op := .load 77 x, type := ty, pos, after, guard } = ldRow 77 (ρ x) := rfl
@[go_sem ↓] theorem store_Act (ρ : Operand → Value) (dst : Option Tmp) (x y : Operand) (ty : TypeId) (pos : String) (after : Array Edge) (guard : Option (Nat × Bool)) :
    execOp ρ { dst, op := .store 77 x y, type := ty, pos, after, guard } = stRow 77 (ρ x) (ρ y) := rfl
@[go_sem] theorem run_load_Act (w : World) (b o : Nat) (h : o + 4 ≤ (w.blk b).size) : (ldRow 77 (.pointer (some ⟨b, o, none⟩))).run Tryz.prog w = .ok (.value (.agg (sub (w.blk b) o 4))) w :=
  run_ldSub w b o 77 4 (by kernel_rfl) (by kernel_rfl) h (by omega)
@[go_sem] theorem run_store_Act (w : World) (b : Nat) (cs : Array Value) (h : (w.blk b).size = 4) (hc : cs.size = 4) (h1 : oneCells cs = true) (hf : w.free b = true) : (stRow 77 (.pointer (some ⟨b, 0, none⟩)) (.agg cs)).run Tryz.prog w = .ok .skip (w.setRow b cs) :=
  run_stRow w b 77 4 _ (by kernel_rfl) h hc (by omega) hf h1
@[go_sem] theorem indexAt_acts (w : World) (s : Sl) (q : IntKind) (i : Int) (h0 : 0 ≤ i) (h1 : i < s.n) : (Instr.indexAt 74 s.val (.int q i)).run Tryz.prog w = .ok (.pointer (some ⟨s.b, s.o + i.toNat * 4, none⟩)) w :=
  run_indexAt_sl w Tryz.underlying74 (fun w => (by kernel_rfl : (sizeOf 77).run Tryz.prog w = .ok 4 w)) s q i h0 h1
theorem numIs_any (n k : Int) (w : World) : Calls Tryz.prog 53 #[errV n, .int .i64 k] w fun e w' => e = .returned (.bool (n == k)) ∧ Grow w w' := by
  have HN := Lib.hid (fun W => num_any n W)
  go_enter Tryz.func53, Tryz.ntmps53
  go_wp2_with (go_at_call 52; refine (HN.out _).mono ?_; rintro e w' ⟨rfl, rfl⟩)
  go_ret
  exact ⟨rfl, grI⟩
theorem row4 {l : List (List Int)} {i : Nat} (h : (rowAt l i).length = 4) : ∃ k a b c, rowAt l i = [k, a, b, c] := by
  match rowAt l i, h with
  | [k, a, b, c], _ => exact ⟨k, a, b, c, rfl⟩
theorem actBad_err (E : Em) (k : Int) : (E.actBad k).err = E.err := by unfold Em.actBad; split <;> rfl
theorem code_lt (c : Int) : 0 ≤ (IntKind.u64.wrap c).tmod 20 ∧ (IntKind.u64.wrap c).tmod 20 < 20 := by
  have h : 0 ≤ IntKind.u64.wrap c := by
    unfold IntKind.wrap
    simp only [IntKind.bits, IntKind.signed]
    simp
    omega
  rw [Int.tmod_eq_emod_of_nonneg h]
  omega
theorem code_ne (c : Int) : wrap64 (1 + wrap64 ((IntKind.u64.wrap c).tmod 20)) ≠ 0 := by
  have := code_lt c
  unfold wrap64
  omega
theorem fail_kept {E : Em} (h : E.err ≠ 0) (n : Int) : E.fail n = E := by unfold Em.fail; exact if_neg h
/-- Where the acts have come to. -/
structure NilAt (W : World) (b : Nat) (own : Nat → Prop) (v : Int) (wr : World) (own2 : Nat → Prop) (E2 : Em) : Prop where
  turn : Turn W b own E2 wr own2
  err : E2.err = v
set_option maxRecDepth 100000 in
set_option maxHeartbeats 8000000 in
theorem nil_law (S : St) (V : SV) (w : World) (R : RepSt w V S) (GL : GlobE w (fun k => w.heap.size ≤ k)) (HA : ∀ W, Grow w W → Calls Tryz.prog 44 #[] W fun e w' => e = .returned (.bool true) ∧ Grow W w')
    (sa : Sl) (acts : List (List Int)) (RA : Rows' w sa 4 acts) (hsa : sa.n ≤ 9223372036854775807) (code : Int) :
    Calls Tryz.prog 10 #[.agg (stA V S.num), sa.val, .int .i64 code] w fun e w' => e = .returned (.bool true) ∧ Grow w w' := by
  have HAl := Lib.hid HA
  have HLo := Lib.hid (fun W (g : Grow w W) => by have := long19_any S V W (R.grow g) .nil sa (by simp [Sl.n]) hsa; rw [show Sl.nil.val = Value.slice none 0 0 from rfl] at this; exact this)
  cases hl : long19B S Sl.nil.n sa.n with
  | true =>
    rw [hl] at HLo
    clear R GL hl HA RA hsa
    go_enter Tryz.func10, Tryz.ntmps10
    go_wp2_with (first | (go_at_call 44; refine (HAl.out _ grI).mono ?_; rintro e' w' ⟨rfl, nx, rfl⟩) | (go_at_call 45; refine (HLo.out _ grI).mono ?_; rintro e' w' ⟨rfl, nx, rfl⟩))
    go_ret
    exact ⟨rfl, grI⟩
  | false =>
  have hl2 := hl
  unfold long19B at hl2
  simp only [Bool.or_eq_false_iff, decide_eq_false_iff_not] at hl2
  have hsm := long_small 30 hl2.1
  have hSm := hsm.small (show 40 ≤ 1048576 by omega)
  have ha20 : sa.n ≤ 20 := by omega
  rw [hl] at HLo
  have HNew := Lib.hid (fun W (g : Grow w W) => by have := new_any S V W (R.grow g) hSm (GL.base.grow g) .nil [] (Ints.nil W) (by simp); rw [show Sl.nil.val = Value.slice none 0 0 from rfl, new_nil] at this; exact this)
  have HCk := Lib.hid (fun W (g : Grow w W) => refCheck_any S V W (R.grow g) hSm)
  have hN := RA.len
  have HRA := Lib.hid RA
  have HR := Lib.hid R
  have HRAB := Lib.hid (fun (hl : 0 < acts.length) => (RA.at (by omega) 0 hl).1)
  clear hl hl2 HA R GL hSm hsm RA hsa
  generalize checkN S = n at *
  go_enter Tryz.func10, Tryz.ntmps10
  go_wp2_with (first | (go_at_call 44; refine (HAl.out _ grI).mono ?_; rintro e' w' ⟨rfl, m1, rfl⟩) | (go_at_call 45; refine (HLo.out _ grI).mono ?_; rintro e' w' ⟨rfl, m2, rfl⟩) | (go_at_call 13; refine (HNew.out _ grI).mono ?_; rintro e' w1 ⟨b, own, rfl, hem, hown, nN, rfl⟩))
  (try simp only [drew_plus] at hem); (try simp only [plus_plus] at hem)
  have hownw : ∀ k, own k → w.heap.size < k := fun k hk => by have := (hown k hk).1; simp only [plus_size, alloc_size'] at this; omega
  have HEM := Lib.hid hem
  have HOW := Lib.hid hownw
  have HFn := Lib.hid (fun W (g : Grow _ W) => fail_nil W b own _ (HEM.out.grow g))
  have HEr := Lib.hid (fun W (g : Grow _ W) => err_any W b own _ (HEM.out.grow g))
  have HNu := Lib.hid (fun W => num_any n W)
  clear hem hown hownw
  go_wp2_with (go_at_call 51; refine (HFn.out _ grI).mono ?_; rintro e' w' ⟨rfl, m3, rfl⟩)
  refine wp_region_grow (by kernel_rfl) (by kernel_rfl) ?_; (repeat (go_big_quiet_step ( (first | (go_at_call 37; first | refine Calls.grow2 (HEr.out _ grI) | refine Calls.grow (HEr.out _ grI)) | (go_at_call 52; first | refine Calls.grow2 ((HNu.out _).mono fun _ _ h => ⟨h.1, h.2 ▸ Grow.refl _⟩) | refine Calls.grow ((HNu.out _).mono fun _ _ h => ⟨h.1, h.2 ▸ Grow.refl _⟩)) | (go_at_call 36; first | refine Calls.grow2 (HCk.out _ grI) | refine Calls.grow (HCk.out _ grI))) ))); refine wpQuiet_nil ?_; rintro _ ⟨nx, rfl⟩
  rename Ext => m4
  have HX := Lib.hid (code_ne code)
  cases hb : (n == 0) with
  | true =>
    go_wp2_with (first | (go_at_call 37; refine (HEr.out _ grI).mono ?_; rintro e' w' ⟨rfl, nx, rfl⟩) | (go_at_call 52; refine (HNu.out _).mono ?_; rintro e' w' ⟨rfl, rfl⟩))
    have hn0 : n = 0 := by simpa using hb
    subst hn0
    generalize wrap64 (1 + wrap64 ((IntKind.u64.wrap code).tmod 20)) = v at *
    rw [← errV_is HX.out]
    have HV := Lib.hid (show (Em.fail ⟨S, [], [], [], 0⟩ v).err = v from rfl)
    have HVN := HX
    rename Ext => m5
    have HGW := Lib.hid (show Grow w ((w.alloc (.cells (stA V S.num) 29)).plus (((((m1.and m2).and nN).and m3).and m4).and m5)) from grI)
    have HG9 := Lib.hid (show Grow ((w.alloc (.cells (stA V S.num) 29)).plus ((m1.and m2).and nN)) ((w.alloc (.cells (stA V S.num) 29)).plus (((((m1.and m2).and nN).and m3).and m4).and m5)) from ⟨(m3.and m4).and m5, by simp only [plus_plus, Ext.and_assoc]⟩)
    generalize (w.alloc (.cells (stA V S.num) 29)).plus (((((m1.and m2).and nN).and m3).and m4).and m5) = W9 at *
    have hE0 := fail_any _ b own _ (HEM.out.grow (w' := W9) HG9.out) v
    refine hE0.mono ?_
    clear hE0
    rintro e' w2 ⟨rfl, hE⟩
    obtain ⟨own1, T1⟩ := (Turn.first (HEM.out.grow HG9.out)).step (Grow.refl _) hE
    have HT1 := Lib.hid T1
    have HRA1 := Lib.hid (fun wr (k : Kept own W9 wr) => (HRA.out.grow HGW.out).kept k (fun hl ho => by have := HOW.out _ ho; have := HRAB.out hl; omega))
    have hGf := Lib.hid (fun wr (k : Kept own W9 wr) => (k.grow_of HGW.out (fun j hj => Nat.le_of_lt (HOW.out j hj)) : Grow w wr))
    clear hE T1
    go_wp2_with fail
    go_loopw [47] (fun i wr => ∃ (k : Nat) (own2 : Nat → Prop) (E2 : Em), k ≤ acts.length ∧ i = .int .i64 k ∧ NilAt W9 b own v wr own2 E2) (fun i _ => acts.length - (intOf i).toNat)
    case atStart => exact ⟨0, own1, _, by omega, rfl, HT1.out, HV.out⟩
    case round =>
      obtain ⟨k, own2, E2, hk, rfl, hA⟩ := hrel
      have HA := Lib.hid hA
      clear hA
      by_cases hlt : k < acts.length
      · obtain ⟨ab, aw, asz, asub, _⟩ := (HRA1.out _ HA.out.turn.kept).at (by omega) k hlt
        obtain ⟨ck, ca, cb, cc, hrow⟩ := row4 aw
        rw [hrow] at asub
        have HD := Lib.hid (fun W (g : Grow wr W) => do19_err W b own2 E2 (HA.out.turn.em.grow g) (by rw [HA.out.err]; exact HVN.out) ck ca cb cc)
        have HOL := Lib.hid HA.out.turn.em.lt
        clear aw hrow
        go_wp2_with fail
        refine (HD.out _ grI).mono ?_
        rintro e' w3 ⟨rfl, own3, R3, K3, O3⟩
        have hq1 : w3.blk wr.heap.size = cellsOf [ck, ca, cb, cc] := by rw [K3.blk _ (by go_simp) (fun h => by have := HOL.out _ h; omega)]; go_simp
        have hq2 : wr.heap.size < w3.heap.size := by have := K3.size; simp only [alloc_size'] at this; omega
        obtain ⟨own4, T4⟩ := HA.out.turn.step (wk' := wr.alloc (.cells (cellsOf [ck, ca, cb, cc]) 77)) grI ⟨own3, R3, K3, O3⟩
        have HT4 := Lib.hid T4
        have HN2 := Lib.hid (fun W => do19_nil W ck ca cb cc)
        have he3 : (E2.actBad ck).err ≠ 0 := by rw [actBad_err, HA.out.err]; exact HVN.out
        have HF2 := Lib.hid (fun W (g : Grow w3 W) => by have := fail_any W b own4 _ (HT4.out.em.grow g) 14; rw [fail_kept he3, errV_is (by decide)] at this; exact this)
        clear R3 K3 O3 T4 he3 asub asz
        go_wp2_with (go_at_call 46; refine (HN2.out _).mono ?_; rintro e' w' ⟨rfl, n1, rfl⟩)
        refine (HF2.out _ grI).mono ?_
        rintro e' w4 ⟨rfl, hE4⟩
        obtain ⟨own5, T5⟩ := HT4.out.step grI hE4
        have HT5 := Lib.hid T5
        clear hE4 T5 hq1 hq2
        go_wp2_with (go_at_call 51; refine (fail_none _ _).mono ?_; rintro e' w' ⟨rfl, n2, rfl⟩)
        go_roundw
        case rel => exact ⟨k + 1, own5, E2.actBad ck, by omega, by go_num, HT5.out.grow grI, by rw [actBad_err, HA.out.err]⟩
        case measure => simp [intOf]; omega
      · have HEm := Lib.hid (show ∀ W, Grow wr W → ∀ m u, (m = .pointer (some ⟨b, 0, none⟩) ∧ u = v) ∨ (m = .pointer none ∧ u = 4) → Calls Tryz.prog 37 #[m] W fun e w' => e = .returned (errV u) ∧ Grow W w' from fun W g m u h => by
          rcases h with ⟨rfl, rfl⟩ | ⟨rfl, rfl⟩
          · have := err_any W b own2 E2 (HA.out.turn.em.grow g); rw [HA.out.err] at this; exact this
          · exact errsAt_nil W W (Grow.refl _))
        have HEs := Lib.hid (show ∀ W, Grow wr W → ∀ m, m = .pointer (some ⟨b, 0, none⟩) ∨ m = .pointer none → Calls Tryz.prog 47 #[m] W fun e w' => e = .returned (.slice none 0 0) ∧ Grow W w' from fun W g m h => by
          rcases h with rfl | rfl
          · exact eevs_bad W _ E2.err (by rw [HA.out.err]; exact HVN.out) ((errsAt_em HA.out.turn.em).grow g)
          · exact eevs_bad W _ 4 (by decide) (errsAt_nil W))
        have HNu2 := Lib.hid (fun W => num_any v W)
        have HI := Lib.hid (fun W => numIs_any 4 4 W)
        have HPe0 := Lib.hid (fun W => epend_bad W (.pointer none) 4 (by decide) (errsAt_nil W))
        have HSt0 := Lib.hid (fun W => estate_bad W (.pointer none) 4 (by decide) (errsAt_nil W))
        have HSa := Lib.hid (show ∀ W, Calls Tryz.prog 49 #[.agg (stA SV.zero fun _ => 0), .agg (stA SV.zero fun _ => 0)] W fun e w' => e = .returned (.bool true) ∧ Grow W w' from fun W => states_same St0 SV.zero SV.zero W (repSt_zero W) (repSt_zero W) ⟨by simp [St0], fun _ _ => by simp [St0]⟩)
        go_wp2_with (first | (go_at_call 37; refine (HEm.out _ grI _ _ (by first | exact .inl ⟨rfl, rfl⟩ | exact .inr ⟨rfl, rfl⟩)).mono ?_; rintro e' w' ⟨rfl, nx, rfl⟩) | (go_at_call 52; refine (HNu2.out _).mono ?_; rintro e' w' ⟨rfl, rfl⟩) | (go_at_call 53; refine (HI.out _).mono ?_; rintro e' w' ⟨rfl, nx, rfl⟩) | (go_at_call 47; refine (HEs.out _ grI _ (by first | exact .inl rfl | exact .inr rfl)).mono ?_; rintro e' w' ⟨rfl, nx, rfl⟩) | (go_at_call 54; refine (HPe0.out _).mono ?_; rintro e' w' ⟨rfl, nx, rfl⟩) | (go_at_call 38; refine (HSt0.out _).mono ?_; rintro e' w' ⟨rfl, nx, rfl⟩) | (go_at_call 49; refine (HSa.out _).mono ?_; rintro e' w' ⟨rfl, nx, rfl⟩))
        go_ret
        exact ⟨rfl, (hGf.out _ HA.out.turn.kept).trans grI⟩
  | false =>
    go_wp2_with (first | (go_at_call 37; refine (HEr.out _ grI).mono ?_; rintro e' w' ⟨rfl, nx, rfl⟩) | (go_at_call 52; refine (HNu.out _).mono ?_; rintro e' w' ⟨rfl, rfl⟩))
    have hn0 : n ≠ 0 := by simpa using hb
    generalize wrap64 (1 + wrap64 ((IntKind.u64.wrap code).tmod 20)) = v at *
    rw [← errV_is HX.out]
    have HV := Lib.hid (show (Em.fail ⟨S, [], [], [], n⟩ v).err = n from by rw [fail_kept hn0])
    have HVN := Lib.hid hn0
    clear hn0
    rename Ext => m5
    have HGW := Lib.hid (show Grow w ((w.alloc (.cells (stA V S.num) 29)).plus (((((m1.and m2).and nN).and m3).and m4).and m5)) from grI)
    have HG9 := Lib.hid (show Grow ((w.alloc (.cells (stA V S.num) 29)).plus ((m1.and m2).and nN)) ((w.alloc (.cells (stA V S.num) 29)).plus (((((m1.and m2).and nN).and m3).and m4).and m5)) from ⟨(m3.and m4).and m5, by simp only [plus_plus, Ext.and_assoc]⟩)
    generalize (w.alloc (.cells (stA V S.num) 29)).plus (((((m1.and m2).and nN).and m3).and m4).and m5) = W9 at *
    have hE0 := fail_any _ b own _ (HEM.out.grow (w' := W9) HG9.out) v
    refine hE0.mono ?_
    clear hE0
    rintro e' w2 ⟨rfl, hE⟩
    obtain ⟨own1, T1⟩ := (Turn.first (HEM.out.grow HG9.out)).step (Grow.refl _) hE
    have HT1 := Lib.hid T1
    have HRA1 := Lib.hid (fun wr (k : Kept own W9 wr) => (HRA.out.grow HGW.out).kept k (fun hl ho => by have := HOW.out _ ho; have := HRAB.out hl; omega))
    have hGf := Lib.hid (fun wr (k : Kept own W9 wr) => (k.grow_of HGW.out (fun j hj => Nat.le_of_lt (HOW.out j hj)) : Grow w wr))
    clear hE T1
    go_wp2_with fail
    go_loopw [47] (fun i wr => ∃ (k : Nat) (own2 : Nat → Prop) (E2 : Em), k ≤ acts.length ∧ i = .int .i64 k ∧ NilAt W9 b own n wr own2 E2) (fun i _ => acts.length - (intOf i).toNat)
    case atStart => exact ⟨0, own1, _, by omega, rfl, HT1.out, HV.out⟩
    case round =>
      obtain ⟨k, own2, E2, hk, rfl, hA⟩ := hrel
      have HA := Lib.hid hA
      clear hA
      by_cases hlt : k < acts.length
      · obtain ⟨ab, aw, asz, asub, _⟩ := (HRA1.out _ HA.out.turn.kept).at (by omega) k hlt
        obtain ⟨ck, ca, cb, cc, hrow⟩ := row4 aw
        rw [hrow] at asub
        have HD := Lib.hid (fun W (g : Grow wr W) => do19_err W b own2 E2 (HA.out.turn.em.grow g) (by rw [HA.out.err]; exact HVN.out) ck ca cb cc)
        have HOL := Lib.hid HA.out.turn.em.lt
        clear aw hrow
        go_wp2_with fail
        refine (HD.out _ grI).mono ?_
        rintro e' w3 ⟨rfl, own3, R3, K3, O3⟩
        have hq1 : w3.blk wr.heap.size = cellsOf [ck, ca, cb, cc] := by rw [K3.blk _ (by go_simp) (fun h => by have := HOL.out _ h; omega)]; go_simp
        have hq2 : wr.heap.size < w3.heap.size := by have := K3.size; simp only [alloc_size'] at this; omega
        obtain ⟨own4, T4⟩ := HA.out.turn.step (wk' := wr.alloc (.cells (cellsOf [ck, ca, cb, cc]) 77)) grI ⟨own3, R3, K3, O3⟩
        have HT4 := Lib.hid T4
        have HN2 := Lib.hid (fun W => do19_nil W ck ca cb cc)
        have he3 : (E2.actBad ck).err ≠ 0 := by rw [actBad_err, HA.out.err]; exact HVN.out
        have HF2 := Lib.hid (fun W (g : Grow w3 W) => by have := fail_any W b own4 _ (HT4.out.em.grow g) 14; rw [fail_kept he3, errV_is (by decide)] at this; exact this)
        clear R3 K3 O3 T4 he3 asub asz
        go_wp2_with (go_at_call 46; refine (HN2.out _).mono ?_; rintro e' w' ⟨rfl, n1, rfl⟩)
        refine (HF2.out _ grI).mono ?_
        rintro e' w4 ⟨rfl, hE4⟩
        obtain ⟨own5, T5⟩ := HT4.out.step grI hE4
        have HT5 := Lib.hid T5
        clear hE4 T5 hq1 hq2
        go_wp2_with (go_at_call 51; refine (fail_none _ _).mono ?_; rintro e' w' ⟨rfl, n2, rfl⟩)
        go_roundw
        case rel => exact ⟨k + 1, own5, E2.actBad ck, by omega, by go_num, HT5.out.grow grI, by rw [actBad_err, HA.out.err]⟩
        case measure => simp [intOf]; omega
      · have HEm := Lib.hid (show ∀ W, Grow wr W → ∀ m u, (m = .pointer (some ⟨b, 0, none⟩) ∧ u = n) ∨ (m = .pointer none ∧ u = 4) → Calls Tryz.prog 37 #[m] W fun e w' => e = .returned (errV u) ∧ Grow W w' from fun W g m u h => by
          rcases h with ⟨rfl, rfl⟩ | ⟨rfl, rfl⟩
          · have := err_any W b own2 E2 (HA.out.turn.em.grow g); rw [HA.out.err] at this; exact this
          · exact errsAt_nil W W (Grow.refl _))
        have HEs := Lib.hid (show ∀ W, Grow wr W → ∀ m, m = .pointer (some ⟨b, 0, none⟩) ∨ m = .pointer none → Calls Tryz.prog 47 #[m] W fun e w' => e = .returned (.slice none 0 0) ∧ Grow W w' from fun W g m h => by
          rcases h with rfl | rfl
          · exact eevs_bad W _ E2.err (by rw [HA.out.err]; exact HVN.out) ((errsAt_em HA.out.turn.em).grow g)
          · exact eevs_bad W _ 4 (by decide) (errsAt_nil W))
        have HNu2 := Lib.hid (fun W => num_any n W)
        have HI := Lib.hid (fun W => numIs_any 4 4 W)
        have HPe0 := Lib.hid (fun W => epend_bad W (.pointer none) 4 (by decide) (errsAt_nil W))
        have HSt0 := Lib.hid (fun W => estate_bad W (.pointer none) 4 (by decide) (errsAt_nil W))
        have HSa := Lib.hid (show ∀ W, Calls Tryz.prog 49 #[.agg (stA SV.zero fun _ => 0), .agg (stA SV.zero fun _ => 0)] W fun e w' => e = .returned (.bool true) ∧ Grow W w' from fun W => states_same St0 SV.zero SV.zero W (repSt_zero W) (repSt_zero W) ⟨by simp [St0], fun _ _ => by simp [St0]⟩)
        go_wp2_with (first | (go_at_call 37; refine (HEm.out _ grI _ _ (by first | exact .inl ⟨rfl, rfl⟩ | exact .inr ⟨rfl, rfl⟩)).mono ?_; rintro e' w' ⟨rfl, nx, rfl⟩) | (go_at_call 52; refine (HNu2.out _).mono ?_; rintro e' w' ⟨rfl, rfl⟩) | (go_at_call 53; refine (HI.out _).mono ?_; rintro e' w' ⟨rfl, nx, rfl⟩) | (go_at_call 47; refine (HEs.out _ grI _ (by first | exact .inl rfl | exact .inr rfl)).mono ?_; rintro e' w' ⟨rfl, nx, rfl⟩) | (go_at_call 54; refine (HPe0.out _).mono ?_; rintro e' w' ⟨rfl, nx, rfl⟩) | (go_at_call 38; refine (HSt0.out _).mono ?_; rintro e' w' ⟨rfl, nx, rfl⟩) | (go_at_call 49; refine (HSa.out _).mono ?_; rintro e' w' ⟨rfl, nx, rfl⟩))
        go_ret
        exact ⟨rfl, (hGf.out _ HA.out.turn.kept).trans grI⟩
end Go.Proofs.YtnjclibennadcaaGreatDoor
