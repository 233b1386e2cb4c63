/-
  The document's rounds: who has lost, what is dying.
-/
import Derived.Test.YtnjclibennadcaaGreatDoorMRef17b
import Derived.Test.YtnjclibennadcaaGreatDoorMChk
import Derived.Test.YtnjclibennadcaaGreatDoorMRefChk
namespace Go.Proofs.YtnjclibennadcaaGreatDoor
open Go Go.RowKit

/-- The document's shape, as it is walked elsewhere. -/
def Of17 : Prop := ∀ (S : St) (V : SV) (w : World), RepSt w V S → Right S → Small S → ∀ d : Nat, d < S.objs.length →
    Calls Tryz.prog 71 #[.agg (stA V S.num), .int .i64 (d : Int)] w fun e w' => e = .returned (.agg (cellsOf (shapeN S d))) ∧ Grow w w'
theorem lost20_0 (S : St) (V : SV) (w : World) : Calls Tryz.prog 122 #[.agg (stA V S.num), .int .i64 0] w fun e w' => e = .returned (.bool (lostB S 0)) ∧ Grow w w' := by
  have HB : Hid (lostB S 0 = (decide (S.num 0 ≤ 0) || S.num 8 == 1)) := by rw [Hid, lostB]; simp
  by_cases h0 : S.num 0 ≤ 0
  · go_enter Tryz.func122, Tryz.ntmps122
    go_wp2_with fail
    go_ret
    exact ⟨ret_bool (by rw [HB.out]; simp [h0]), grI⟩
  · go_enter Tryz.func122, Tryz.ntmps122
    go_wp2_with fail
    go_ret
    exact ⟨ret_bool (by rw [HB.out]; simp; omega), grI⟩
theorem lost20_1 (S : St) (V : SV) (w : World) : Calls Tryz.prog 122 #[.agg (stA V S.num), .int .i64 1] w fun e w' => e = .returned (.bool (lostB S 1)) ∧ Grow w w' := by
  have HB : Hid (lostB S 1 = (decide (S.num 9 ≤ 0) || S.num 17 == 1)) := by rw [Hid, lostB]; simp
  by_cases h0 : S.num 9 ≤ 0
  · go_enter Tryz.func122, Tryz.ntmps122
    go_wp2_with fail
    go_ret
    exact ⟨ret_bool (by rw [HB.out]; simp [h0]), grI⟩
  · go_enter Tryz.func122, Tryz.ntmps122
    go_wp2_with fail
    go_ret
    exact ⟨ret_bool (by rw [HB.out]; simp; omega), grI⟩
theorem lost20_no (S : St) (V : SV) (w : World) (p : Int) (h0 : p ≠ 0) (h1 : p ≠ 1) : Calls Tryz.prog 122 #[.agg (stA V S.num), .int .i64 p] w fun e w' => e = .returned (.bool (lostB S p)) ∧ Grow w w' := by
  have HB : Hid (lostB S p = false) := by rw [Hid, lostB]; simp [h0, h1]
  go_enter Tryz.func122, Tryz.ntmps122
  go_wp2_with fail
  go_ret
  exact ⟨ret_bool HB.out.symm, grI⟩
theorem lost20_any (S : St) (V : SV) (w : World) (p : Int) : Calls Tryz.prog 122 #[.agg (stA V S.num), .int .i64 p] w fun e w' => e = .returned (.bool (lostB S p)) ∧ Grow w w' := by
  by_cases h0 : p = 0
  · subst h0; exact lost20_0 S V w
  · by_cases h1 : p = 1
    · subst h1; exact lost20_1 S V w
    · exact lost20_no S V w p h0 h1
@[go_sem] theorem field_shape17 (w : World) (a b c : Int) : (Instr.field 113 (.agg (cellsOf [a, b, c])) 1).run Tryz.prog w = .ok (I b) w := by kernel_rfl
set_option maxRecDepth 100000 in
set_option maxHeartbeats 4000000 in
theorem dying20_no (S : St) (V : SV) (w : World) (R : RepSt w V S) (hS : Small S) (hc : checkN S ≠ 0) : Calls Tryz.prog 123 #[.agg (stA V S.num)] w fun e w' => ∃ s : Sl, e = .returned s.val ∧ Ints w' s (dyingN S) ∧ Grow w w' := by
  have hd : dyingN S = [] := by unfold dyingN; rw [if_neg hc]
  have HRef := Lib.hid (fun W (g : Grow w W) => refCheck_any S V W (R.grow g) hS)
  have hb : (checkN S != 0) = true := by simpa using hc
  generalize checkN S = n at *
  rw [hd]
  clear R hd hc
  go_enter Tryz.func123, Tryz.ntmps123
  go_wp2_with (go_at_call 36; refine (HRef.out _ grI).mono ?_; rintro e' w' ⟨rfl, nx, rfl⟩)
  go_ret
  exact ⟨.mk (w.heap.size + 1) 0 0 0, rfl, ⟨rfl, Nat.le_refl _, fun i hi => absurd hi (Nat.not_lt_zero _)⟩, grI⟩
set_option maxRecDepth 100000 in
set_option maxHeartbeats 4000000 in
theorem dying20_any (T8 : Table08) (O : Of17) (S : St) (V : SV) (w : World) (h : RS S V w) : Calls Tryz.prog 123 #[.agg (stA V S.num)] w fun e w' => ∃ s : Sl, e = .returned s.val ∧ Ints w' s (dyingN S) ∧ Grow w w' := by
  have hck := (checkN_zero S).2 h.right
  have hdy : dyingN S = dyTo S (S.list 8).length := by unfold dyingN dyTo; rw [if_pos hck, List.take_length]
  have HRef := Lib.hid (fun W (g : Grow w W) => by have := refCheck_any S V W (h.rep.grow g) h.small; rw [hck] at this; exact this)
  have HIs := Lib.hid (fun W (g : Grow w W) id => is17_any T8 S V W (h.rep.grow g) h.right id)
  have HOf := Lib.hid (fun W (g : Grow w W) d (hd : d < S.objs.length) => O S V W (h.rep.grow g) h.right h.small d hd)
  have H := Lib.hid h
  have hN := h.rep.objs.len
  have hL := h.rep.list 8 (by omega)
  have hln := hL.len
  have hsm : (S.list 8).length ≤ 1048576 := h.small.list 8 (by omega)
  have HL := Lib.hid hL
  rw [hdy]
  clear h hdy hL hck O T8
  go_enter Tryz.func123, Tryz.ntmps123
  go_wp2_with (go_at_call 36; refine (HRef.out _ grI).mono ?_; rintro e' w' ⟨rfl, nx, rfl⟩)
  go_loopw [3, 15] (fun v i wr => ∃ (k : Nat) (s : Sl), k ≤ (S.list 8).length ∧ i = .int .i64 k ∧ v = s.val ∧ Made (w.alloc (.cells (stA V S.num) 29)).heap.size wr s 1 ((dyTo S k).map I) ∧ s.n ≤ k ∧ Grow (w.alloc (.cells (stA V S.num) 29)) wr) (fun _ i _ => (S.list 8).length - (intOf i).toNat)
  case atStart =>
    refine ⟨0, .mk (w.heap.size + 1) 0 0 0, by omega, rfl, rfl, ⟨⟨rfl, Nat.le_refl _, fun j u hu => by simp [dyTo] at hu⟩, ⟨Nat.zero_le _, fun j hj => by simp [Sl.c] at hj⟩, fun b hb => ?_⟩, Nat.le_refl _, grI⟩
    obtain rfl : b = w.heap.size + 1 := hb
    exact ⟨by simp only [alloc_size']; omega, by simp only [plus_size, alloc_size']; omega⟩
  case round =>
    obtain ⟨k, s, hk, rfl, rfl, hM, hsn, hG⟩ := hrel
    obtain ⟨x, rfl⟩ := hG
    have HM := Lib.hid hM
    clear hM
    by_cases hlt : k < (S.list 8).length
    · obtain ⟨q1, q2⟩ := (HL.out.grow (w' := (w.alloc (.cells (stA V S.num) 29)).plus x) grI).at k hlt
      have HSD := Lib.hid (dyTo_succ S k hlt)
      generalize gt (S.list 8) k = id at *
      cases hc : creatureB S id with
      | false =>
        have HS2 : Hid (dyTo S (k + 1) = dyTo S k) := by rw [Hid, HSD.out]; simp [dieB, hc]
        have HI2 := Lib.hid (fun W g => by have := HIs.out W g id; rw [hc] at this; exact this)
        clear HSD HIs
        go_wp2_with fail
        refine wp_region_grow (by kernel_rfl) (by kernel_rfl) ?_; (repeat (go_big_quiet_step ( (go_at_call 132; first | refine Calls.grow2 (HI2.out _ grI) | refine Calls.grow (HI2.out _ grI)) ))); refine wpQuiet_nil ?_; rintro _ ⟨nx, rfl⟩
        go_wp2_with fail
        go_roundw
        case rel => exact ⟨k + 1, s, by omega, by go_num, rfl, by rw [HS2.out]; exact HM.out.grow grI, by omega, grI⟩
        case measure => simp [intOf]; omega
      | true =>
        obtain ⟨o0, o1, _, _⟩ := creatureB_in hc
        obtain ⟨d, rfl⟩ := Int.eq_ofNat_of_zero_le o0
        have hd : d < S.objs.length := by omega
        have hd' : (d : Int) < S.objs.length := o1
        obtain ⟨p, t, wd, hsh⟩ : ∃ p t wd, shapeN S d = [p, t, wd] := ⟨_, _, _, rfl⟩
        have HS2 : Hid (dyTo S (k + 1) = dyTo S k ++ (if wrap64 (t - gt (rowAt S.objs d) 6) ≤ 0 then [(d : Int)] else [])) := by
          rw [Hid, HSD.out]
          simp only [dieB, hc, Bool.true_and, Int.toNat_natCast, hsh, decide_eq_true_eq]
          rfl
        have HI2 := Lib.hid (fun W g => by have := HIs.out W g d; rw [hc] at this; exact this)
        have HO2 := Lib.hid (fun W g => by have := HOf.out W g d hd; rw [hsh] at this; exact this)
        obtain ⟨hob, how, _, _, hocell⟩ := H.out.rep.objs.at (by omega) d hd
        have hc6 := hocell 6 (by omega)
        clear HSD HIs HOf hocell o0 o1 hsh
        generalize gt (rowAt S.objs d) 6 = dm at *
        by_cases hle : wrap64 (t - dm) ≤ 0
        · rw [if_pos hle] at HS2
          go_wp2_with fail
          refine wp_region_grow (by kernel_rfl) (by kernel_rfl) ?_; (repeat (go_big_quiet_step ( (first | (go_at_call 132; first | refine Calls.grow2 (HI2.out _ grI) | refine Calls.grow (HI2.out _ grI)) | (go_at_call 71; first | refine Calls.grow2 (HO2.out _ grI) | refine Calls.grow (HO2.out _ grI))) ))); refine wpQuiet_nil ?_; rintro _ ⟨nx, rfl⟩
          go_wp2_with ((at_builtin; refine wpList_made rfl _ _ 23 rfl 3 Tryz.t3 (.int .i64 0) 1 8 Tryz.underlying23 (by kernel_rfl) (by kernel_rfl) (by kernel_rfl) (by kernel_rfl) (by omega) rfl (w.alloc (.cells (stA V S.num) 29)) s (.mk _ 0 1 1) ((dyTo S k).map I) [I (d : Int)] rfl rfl (HM.out.grow grI) grI (one_int _ _ _ (by go_simp)) (flat_one _) (flat_one [(d : Int)]) (by simp only [Sl.n] at hsn ⊢; omega) ?_; intro s2 y c1 _ c3 _; have C := Lib.hid (And.intro c1 c3); clear c1 c3))
          go_roundw
          case rel => exact ⟨k + 1, s2, by omega, by go_num, rfl, by rw [HS2.out, List.map_append]; exact C.out.1.grow grI, by rw [C.out.2]; simp only [Sl.n] at hsn ⊢; omega, grI⟩
          case measure => simp [intOf]; omega
        · rw [if_neg hle, List.append_nil] at HS2
          go_wp2_with fail
          refine wp_region_grow (by kernel_rfl) (by kernel_rfl) ?_; (repeat (go_big_quiet_step ( (first | (go_at_call 132; first | refine Calls.grow2 (HI2.out _ grI) | refine Calls.grow (HI2.out _ grI)) | (go_at_call 71; first | refine Calls.grow2 (HO2.out _ grI) | refine Calls.grow (HO2.out _ grI))) ))); refine wpQuiet_nil ?_; rintro _ ⟨nx, rfl⟩
          go_wp2_with fail
          go_roundw
          case rel => exact ⟨k + 1, s, by omega, by go_num, rfl, by rw [HS2.out]; exact HM.out.grow grI, by omega, grI⟩
          case measure => simp [intOf]; omega
    · go_wp2_with fail
      go_ret
      have hkl : k = (S.list 8).length := by omega
      have hM := HM.out.grow (w' := (w.alloc (.cells (stA V S.num) 29)).plus x) grI
      rw [hkl] at hM
      exact ⟨s, rfl, hM.cells.ints, grI⟩
end Go.Proofs.YtnjclibennadcaaGreatDoor
