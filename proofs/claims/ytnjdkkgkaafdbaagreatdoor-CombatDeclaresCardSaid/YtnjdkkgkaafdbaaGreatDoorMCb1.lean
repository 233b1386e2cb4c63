/-
  Who may attack, who may block: of a right state.
-/
import Derived.Test.YtnjdkkgkaafdbaaGreatDoorMComb
namespace Go.Proofs.YtnjdkkgkaafdbaaGreatDoor
open Go Go.RowKit

theorem idxFrom_contains (x : Int) : ∀ (l : List Int) (i : Nat), decide (0 ≤ Lib.idxFrom l x i) = l.contains x
  | [], _ => rfl
  | z :: l, i => by
    unfold Lib.idxFrom
    rw [List.contains_cons]
    by_cases h : z = x
    · rw [if_pos h, h]; simp
    · rw [if_neg h, idxFrom_contains x l (i + 1)]
      have : (x == z) = false := by rw [beq_eq_false_iff_ne]; exact fun e => h e.symm
      rw [this, Bool.false_or]
theorem idx_contains (l : List Int) (x : Int) : decide (0 ≤ idxL l x) = l.contains x := idxFrom_contains x l 0
theorem contains_any (w : World) (s : Sl) (l : List Int) (x : Int) (R : Ints w s l) (hb : l.length ≤ 1048576) :
    Calls Tryz.prog 59 #[s.val, .int .i64 x] w fun e w' => e = .returned (.bool (l.contains x)) ∧ Grow w w' := by
  have HI := Lib.hid (fun W (g : Grow w W) => idx_ints W s l x (R.grow g) hb)
  rw [← idx_contains]
  go_enter Tryz.func59, Tryz.ntmps59
  go_wp2_with (go_at_call 97; refine (HI.out _ grI).mono ?_; rintro e' w' ⟨rfl, hww⟩; subst w')
  go_ret
  exact ⟨ret_bool (by simp), grI⟩
def fldN (S : St) (id : Int) (f : Nat) : Int := gt (rowAt S.objs id.toNat) f
def lameB (S : St) (id : Int) : Bool := (fldN S id 5 == 1) && !hasB S id 4
/-- May a creature of a right state attack? -/
def mayB (S : St) (id : Int) : Bool := creatureB S id && (fldN S id 2 == S.num 19) && ((fldN S id 4 == 0) && !lameB S id && !hasB S id 128)
theorem lame_any (S : St) (V : SV) (w : World) (h : RS S V w) (d : Nat) (hd : d < S.objs.length) :
    Calls Tryz.prog 62 #[.agg (stA V S.num), .int .i64 (d : Int)] w fun e w' => e = .returned (.bool (lameB S d)) ∧ Grow w w' := by
  have HF := Lib.hid (fun W (g : Grow w W) => field_any S V W (h.grow g).rep d 5 hd (by decide))
  have HH := Lib.hid (fun W (g : Grow w W) => has_word S V W (h.grow g) d 4 (by decide) (by decide))
  have HB : Hid (lameB S d = ((gt (rowAt S.objs d) 5 == 1) && !hasB S d 4)) := by rw [Hid, lameB, fldN, Int.toNat_natCast]
  generalize gt (rowAt S.objs d) 5 = u at *
  generalize hasB S d 4 = c at *
  clear h
  cases hu : (u == 1) with
  | true =>
    rw [hu] at HB
    go_enter Tryz.func62, Tryz.ntmps62
    go_wp2_with (first | (go_at_call 41; refine (HF.out _ grI).mono ?_; rintro e' w' ⟨rfl, nx, rfl⟩) | (go_at_call 31; refine (HH.out _ grI).mono ?_; rintro e' w' ⟨rfl, nx, rfl⟩))
    go_ret
    exact ⟨ret_bool (by rw [HB.out]; simp), grI⟩
  | false =>
    rw [hu] at HB
    go_enter Tryz.func62, Tryz.ntmps62
    go_wp2_with (go_at_call 41; refine (HF.out _ grI).mono ?_; rintro e' w' ⟨rfl, nx, rfl⟩)
    go_ret
    exact ⟨ret_bool (by rw [HB.out]; simp), grI⟩
set_option maxRecDepth 100000 in
set_option maxHeartbeats 1000000 in
theorem may_any (S : St) (V : SV) (w : World) (h : RS S V w) (id : Int) :
    Calls Tryz.prog 26 #[.agg (stA V S.num), .int .i64 id] w fun e w' => e = .returned (.bool (mayB S id)) ∧ Grow w w' := by
  have HI := Lib.hid (fun W (g : Grow w W) => is_any S V W (h.grow g) id)
  have HB : Hid (mayB S id = (creatureB S id && (fldN S id 2 == S.num 19) && ((fldN S id 4 == 0) && !lameB S id && !hasB S id 128))) := rfl
  cases hc : creatureB S id with
  | false =>
    rw [hc] at HB HI
    clear hc h
    go_enter Tryz.func26, Tryz.ntmps26
    go_wp2_with fail
    refine wp_region_grow (by kernel_rfl) (by kernel_rfl) ?_; (repeat (go_big_quiet_step ( (first | (go_at_call 40; first | refine Calls.grow2 (HI.out _ grI) | refine Calls.grow (HI.out _ grI))) ))); refine wpQuiet_nil ?_; rintro _ ⟨nx, rfl⟩
    go_wp2_with fail
    go_ret
    exact ⟨ret_bool (by rw [HB.out]; simp), grI⟩
  | true =>
    obtain ⟨c1, c2, _, _⟩ := creatureB_in hc
    obtain ⟨d, rfl⟩ := Int.eq_ofNat_of_zero_le c1
    have hd : d < S.objs.length := by omega
    rw [hc] at HB HI
    unfold fldN at HB
    rw [Int.toNat_natCast] at HB
    have HF := Lib.hid (show ∀ W, Grow w W → ∀ f u, (f = 2 ∧ u = gt (rowAt S.objs d) 2) ∨ (f = 4 ∧ u = gt (rowAt S.objs d) 4) → Calls Tryz.prog 41 #[.agg (stA V S.num), .int .i64 (d : Int), .int .i64 f] W fun e w' => e = .returned (.int .i64 u) ∧ Grow W w' from fun W g f u hf => by
      rcases hf with ⟨rfl, rfl⟩ | ⟨rfl, rfl⟩
      · exact field_any S V W (h.grow g).rep d 2 hd (by decide)
      · exact field_any S V W (h.grow g).rep d 4 hd (by decide))
    have HL := Lib.hid (fun W (g : Grow w W) => lame_any S V W (h.grow g) d hd)
    have HH := Lib.hid (fun W (g : Grow w W) => has_word S V W (h.grow g) d 128 (by decide) (by decide))
    generalize gt (rowAt S.objs d) 2 = u2 at *
    generalize gt (rowAt S.objs d) 4 = u4 at *
    generalize lameB S d = lb at *
    generalize hasB S d 128 = hb at *
    clear hc h c1 c2
    cases h2 : (u2 == S.num 19) <;> cases h4 : (u4 == 0) <;> cases lb <;> rw [h2, h4] at HB
    all_goals
      go_enter Tryz.func26, Tryz.ntmps26
      go_wp2_with fail
      refine wp_region_grow (by kernel_rfl) (by kernel_rfl) ?_; (repeat (go_big_quiet_step ( (first | (go_at_call 40; first | refine Calls.grow2 (HI.out _ grI) | refine Calls.grow (HI.out _ grI)) | (go_at_call 41; first | refine Calls.grow2 (HF.out _ grI _ _ (.inl ⟨rfl, rfl⟩)) | refine Calls.grow (HF.out _ grI _ _ (.inl ⟨rfl, rfl⟩)))) ))); refine wpQuiet_nil ?_; rintro _ ⟨nx, rfl⟩
      go_wp2_with (first | (go_at_call 41; refine (HF.out _ grI _ _ (.inr ⟨rfl, rfl⟩)).mono ?_; rintro e' w' ⟨rfl, nx, rfl⟩) | (go_at_call 62; refine (HL.out _ grI).mono ?_; rintro e' w' ⟨rfl, nx, rfl⟩) | (go_at_call 31; refine (HH.out _ grI).mono ?_; rintro e' w' ⟨rfl, nx, rfl⟩))
      go_ret
      exact ⟨ret_bool (by rw [HB.out]; simp), grI⟩
/-- May a creature of a right state block that attacker? -/
def stopsB (S : St) (id a : Int) : Bool := creatureB S id && attacksB S a && (fldN S id 2 == 1 - S.num 19) && !(fldN S id 4 == 1) && (!hasB S a 1 || (hasB S id 1 || hasB S id 2))
set_option maxRecDepth 100000 in
set_option maxHeartbeats 2000000 in
theorem stops_any (S : St) (V : SV) (w : World) (h : RS S V w) (id a : Int) :
    Calls Tryz.prog 13 #[.agg (stA V S.num), .int .i64 id, .int .i64 a] w fun e w' => e = .returned (.bool (stopsB S id a)) ∧ Grow w w' := by
  have HI := Lib.hid (fun W (g : Grow w W) => is_any S V W (h.grow g) id)
  have HA := Lib.hid (fun W (g : Grow w W) => attacks_any S V W (h.grow g) a)
  have HB : Hid (stopsB S id a = (creatureB S id && attacksB S a && (fldN S id 2 == 1 - S.num 19) && !(fldN S id 4 == 1) && (!hasB S a 1 || (hasB S id 1 || hasB S id 2)))) := rfl
  have hact := h.right.active
  have HFo := Lib.hid (fun W => foe_any W (S.num 19) hact.1 hact.2)
  clear hact
  cases hc : creatureB S id with
  | false =>
    rw [hc] at HB HI
    clear hc h HA HFo
    go_enter Tryz.func13, Tryz.ntmps13
    go_wp2_with fail
    refine wp_region_grow (by kernel_rfl) (by kernel_rfl) ?_; (repeat (go_big_quiet_step ( (first | (go_at_call 40; first | refine Calls.grow2 (HI.out _ grI) | refine Calls.grow (HI.out _ grI))) ))); refine wpQuiet_nil ?_; rintro _ ⟨nx, rfl⟩
    go_wp2_with fail
    go_ret
    exact ⟨ret_bool (by rw [HB.out]; simp), grI⟩
  | true =>
    obtain ⟨c1, c2, _, _⟩ := creatureB_in hc
    obtain ⟨d, rfl⟩ := Int.eq_ofNat_of_zero_le c1
    have hd : d < S.objs.length := by omega
    rw [hc] at HB HI
    cases ha : attacksB S a with
    | false =>
      rw [ha] at HB HA
      clear hc ha h HFo
      go_enter Tryz.func13, Tryz.ntmps13
      go_wp2_with fail
      refine wp_region_grow (by kernel_rfl) (by kernel_rfl) ?_; (repeat (go_big_quiet_step ( (first | (go_at_call 40; first | refine Calls.grow2 (HI.out _ grI) | refine Calls.grow (HI.out _ grI)) | (go_at_call 39; first | refine Calls.grow2 (HA.out _ grI) | refine Calls.grow (HA.out _ grI))) ))); refine wpQuiet_nil ?_; rintro _ ⟨nx, rfl⟩
      go_wp2_with fail
      go_ret
      exact ⟨ret_bool (by rw [HB.out]; simp), grI⟩
    | true =>
      rw [ha] at HB HA
      unfold fldN at HB
      rw [Int.toNat_natCast] at HB
      have HF := Lib.hid (show ∀ W, Grow w W → ∀ f u, (f = 2 ∧ u = gt (rowAt S.objs d) 2) ∨ (f = 4 ∧ u = gt (rowAt S.objs d) 4) → Calls Tryz.prog 41 #[.agg (stA V S.num), .int .i64 (d : Int), .int .i64 f] W fun e w' => e = .returned (.int .i64 u) ∧ Grow W w' from fun W g f u hf => by
        rcases hf with ⟨rfl, rfl⟩ | ⟨rfl, rfl⟩
        · exact field_any S V W (h.grow g).rep d 2 hd (by decide)
        · exact field_any S V W (h.grow g).rep d 4 hd (by decide))
      have HH := Lib.hid (show ∀ W, Grow w W → ∀ x v u, (x = a ∧ v = 1 ∧ u = hasB S a 1) ∨ (x = (d : Int) ∧ v = 1 ∧ u = hasB S d 1) ∨ (x = (d : Int) ∧ v = 2 ∧ u = hasB S d 2) → Calls Tryz.prog 31 #[.agg (stA V S.num), .int .i64 x, .int .i64 v] W fun e w' => e = .returned (.bool u) ∧ Grow W w' from fun W g x v u hf => by
        rcases hf with ⟨rfl, rfl, rfl⟩ | ⟨rfl, rfl, rfl⟩ | ⟨rfl, rfl, rfl⟩
        · exact has_word S V W (h.grow g) _ 1 (by decide) (by decide)
        · exact has_word S V W (h.grow g) _ 1 (by decide) (by decide)
        · exact has_word S V W (h.grow g) _ 2 (by decide) (by decide))
      generalize gt (rowAt S.objs d) 2 = u2 at *
      generalize gt (rowAt S.objs d) 4 = u4 at *
      generalize hasB S a 1 = b0 at *
      generalize hasB S d 1 = b1 at *
      generalize hasB S d 2 = b2 at *
      clear hc ha h c1 c2
      have g2 : (u2 != 1 - S.num 19) = !(u2 == 1 - S.num 19) := rfl
      cases h2 : (u2 == 1 - S.num 19) <;> cases h4 : (u4 == 1) <;> rw [h2, h4] at HB <;> rw [h2] at g2 <;> simp only [Bool.not_true, Bool.not_false] at g2
      case true.false =>
        cases b0 <;> cases b1
        all_goals
          go_enter Tryz.func13, Tryz.ntmps13
          go_wp2_with fail
          refine wp_region_grow (by kernel_rfl) (by kernel_rfl) ?_; (repeat (go_big_quiet_step ( (first | (go_at_call 40; first | refine Calls.grow2 (HI.out _ grI) | refine Calls.grow (HI.out _ grI)) | (go_at_call 39; first | refine Calls.grow2 (HA.out _ grI) | refine Calls.grow (HA.out _ grI)) | (go_at_call 41; first | refine Calls.grow2 (HF.out _ grI _ _ (by first | exact .inl ⟨rfl, rfl⟩ | exact .inr ⟨rfl, rfl⟩)) | refine Calls.grow (HF.out _ grI _ _ (by first | exact .inl ⟨rfl, rfl⟩ | exact .inr ⟨rfl, rfl⟩))) | (go_at_call 42; first | refine Calls.grow2 (HFo.out _) | refine Calls.grow (HFo.out _))) ))); refine wpQuiet_nil ?_; rintro _ ⟨nx, rfl⟩
          go_wp2_with (go_at_call 31; refine (HH.out _ grI _ _ _ (by first | exact .inl ⟨rfl, rfl, rfl⟩ | exact .inr (.inl ⟨rfl, rfl, rfl⟩) | exact .inr (.inr ⟨rfl, rfl, rfl⟩))).mono ?_; rintro e' w' ⟨rfl, nx, rfl⟩)
          go_ret
          exact ⟨ret_bool (by rw [HB.out]; simp), grI⟩
      all_goals
        go_enter Tryz.func13, Tryz.ntmps13
        go_wp2_with fail
        refine wp_region_grow (by kernel_rfl) (by kernel_rfl) ?_; (repeat (go_big_quiet_step ( (first | (go_at_call 40; first | refine Calls.grow2 (HI.out _ grI) | refine Calls.grow (HI.out _ grI)) | (go_at_call 39; first | refine Calls.grow2 (HA.out _ grI) | refine Calls.grow (HA.out _ grI)) | (go_at_call 41; first | refine Calls.grow2 (HF.out _ grI _ _ (by first | exact .inl ⟨rfl, rfl⟩ | exact .inr ⟨rfl, rfl⟩)) | refine Calls.grow (HF.out _ grI _ _ (by first | exact .inl ⟨rfl, rfl⟩ | exact .inr ⟨rfl, rfl⟩))) | (go_at_call 42; first | refine Calls.grow2 (HFo.out _) | refine Calls.grow (HFo.out _))) ))); refine wpQuiet_nil ?_; rintro _ ⟨nx, rfl⟩
        go_wp2_with fail
        go_ret
        exact ⟨ret_bool (by rw [HB.out]; simp), grI⟩
end Go.Proofs.YtnjdkkgkaafdbaaGreatDoor
