/-
  Who attacks, who blocks, how strong.
-/
import Derived.Test.YtmmkmhpchoelkaaDoorIs
namespace Go.Proofs.YtmmkmhpchoelkaaDoor
open Go Go.RowKit

set_option maxRecDepth 100000 in
theorem field_any (S : St) (V : SV) (w : World) (R : RepSt w V S) (d f : Nat) (hd : d < S.objs.length) (hf : f < 18) :
    Calls Tryd.prog 67 #[.agg (stA V S.num), .int .i64 (d : Int), .int .i64 (f : Int)] w fun e w' => e = .returned (.int .i64 (gt (rowAt S.objs d) f)) ∧ Grow w w' := by
  have hN := R.objs.len
  obtain ⟨hob, how, hosz, hosub, hocell⟩ := R.objs.at (by omega) d hd
  have hoc := hocell f hf
  have hd' : (d : Int) < S.objs.length := by omega
  have hf' : (f : Int) < 18 := by omega
  clear hocell hosub hosz R
  generalize gt (rowAt S.objs d) f = v at *
  go_enter Tryd.func67, Tryd.ntmps67
  go_wp2_with fail
  go_ret
  exact ⟨rfl, (by repeat (first | exact Grow.refl _ | refine Grow.andr ?_ | refine Grow.plus ?_ _ | refine Grow.alloc ?_ _ | refine Grow.drew ?_ | refine Grow.drewN ?_ _))⟩
/-- Does an object of a right state attack? -/
def attacksB (S : St) (id : Int) : Bool := creatureB S id && (gt (rowAt S.objs id.toNat) 11 == 1)
set_option maxRecDepth 100000 in
theorem attacks_any (S : St) (V : SV) (w : World) (h : RS S V w) (id : Int) :
    Calls Tryd.prog 39 #[.agg (stA V S.num), .int .i64 id] w fun e w' => e = .returned (.bool (attacksB S id)) ∧ Grow w w' := by
  have HH := Lib.hid h
  clear h
  have HB : Hid (attacksB S id = (creatureB S id && (gt (rowAt S.objs id.toNat) 11 == 1))) := rfl
  cases hc : creatureB S id with
  | true =>
    have HI : Hid (∀ W, Grow w W → Calls Tryd.prog 14 #[.agg (stA V S.num), .int .i64 id] W fun e w' => e = .returned (.bool true) ∧ Grow W w') := fun W g => by
      have := is_any S V W (HH.out.grow g) id
      rw [hc] at this; exact this
    obtain ⟨c1, c2, _, _⟩ := creatureB_in hc
    obtain ⟨d, rfl⟩ := Int.eq_ofNat_of_zero_le c1
    have hd : d < S.objs.length := by omega
    rw [hc, Int.toNat_natCast] at HB
    clear hc c1
    go_enter Tryd.func39, Tryd.ntmps39
    go_wp2_with (first | (go_at_call 14; refine (HI.out _ (by repeat (first | exact Grow.refl _ | refine Grow.andr ?_ | refine Grow.plus ?_ _ | refine Grow.alloc ?_ _ | refine Grow.drew ?_ | refine Grow.drewN ?_ _))).mono ?_; rintro e w' ⟨rfl, nx, rfl⟩) | (go_at_call 67; refine (field_any S V _ (HH.out.grow (by repeat (first | exact Grow.refl _ | refine Grow.andr ?_ | refine Grow.plus ?_ _ | refine Grow.alloc ?_ _ | refine Grow.drew ?_ | refine Grow.drewN ?_ _))).rep d 11 hd (by decide)).mono ?_; rintro e w' ⟨rfl, nx, rfl⟩))
    go_ret
    exact ⟨ret_bool (by rw [HB.out]; simp), (by repeat (first | exact Grow.refl _ | refine Grow.andr ?_ | refine Grow.plus ?_ _ | refine Grow.alloc ?_ _ | refine Grow.drew ?_ | refine Grow.drewN ?_ _))⟩
  | false =>
    have HI : Hid (∀ W, Grow w W → Calls Tryd.prog 14 #[.agg (stA V S.num), .int .i64 id] W fun e w' => e = .returned (.bool false) ∧ Grow W w') := fun W g => by
      have := is_any S V W (HH.out.grow g) id
      rw [hc] at this; exact this
    rw [hc] at HB
    clear hc
    go_enter Tryd.func39, Tryd.ntmps39
    go_wp2_with (go_at_call 14; refine (HI.out _ (by repeat (first | exact Grow.refl _ | refine Grow.andr ?_ | refine Grow.plus ?_ _ | refine Grow.alloc ?_ _ | refine Grow.drew ?_ | refine Grow.drewN ?_ _))).mono ?_; rintro e w' ⟨rfl, nx, rfl⟩)
    go_ret
    exact ⟨ret_bool (by rw [HB.out]; simp), (by repeat (first | exact Grow.refl _ | refine Grow.andr ?_ | refine Grow.plus ?_ _ | refine Grow.alloc ?_ _ | refine Grow.drew ?_ | refine Grow.drewN ?_ _))⟩
def attTo (S : St) (k : Nat) : List Int := ((S.list 8).take k).filter (attacksB S)
/-- The attackers of a right state. -/
def attackersN (S : St) : List Int := (S.list 8).filter (attacksB S)
theorem attTo_succ (S : St) (k : Nat) (h : k < (S.list 8).length) : attTo S (k + 1) = attTo S k ++ (if attacksB S (gt (S.list 8) k) = true then [gt (S.list 8) k] else []) := by
  unfold attTo
  rw [take_snoc _ _ h, List.filter_append]
  congr 1
  by_cases h : attacksB S (gt (S.list 8) k) = true
  · rw [if_pos h, List.filter_cons_of_pos h]; rfl
  · rw [if_neg h, List.filter_cons_of_neg h]; rfl
set_option maxRecDepth 100000 in
set_option maxHeartbeats 1000000 in
theorem attackers_any (S : St) (V : SV) (w : World) (h : RS S V w) :
    Calls Tryd.prog 15 #[.agg (stA V S.num)] w fun e w' => ∃ s : Sl, e = .returned s.val ∧ Ints w' s (attackersN S) ∧ Grow w w' := by
  have hL := (h.rep.list 8 (by decide)).len
  have hSL := h.small.list 8 (by decide)
  have HH := Lib.hid h
  clear h
  go_enter Tryd.func15, Tryd.ntmps15
  go_wp2_with fail
  go_loopw [3, 10] (fun v i wr => ∃ (k : Nat) (s : Sl), k ≤ (S.list 8).length ∧ i = .int .i64 k ∧ v = s.val ∧ Made (w.alloc (.cells (stA V S.num) 29)).heap.size wr s 1 ((attTo S k).map I) ∧ s.n ≤ k ∧ Grow (w.alloc (.cells (stA V S.num) 29)) wr) (fun _ i _ => (S.list 8).length - (intOf i).toNat)
  case atStart => exact ⟨0, .nil, by omega, rfl, rfl, Made.nil _ _ _, by simp [Sl.n], (by repeat (first | exact Grow.refl _ | refine Grow.andr ?_ | refine Grow.plus ?_ _ | refine Grow.alloc ?_ _ | refine Grow.drew ?_ | refine Grow.drewN ?_ _))⟩
  case round =>
    obtain ⟨k, s, hk, rfl, rfl, hM, hsn, hG⟩ := hrel
    obtain ⟨x, rfl⟩ := hG
    have HM := Lib.hid hM
    clear hM
    by_cases hlt : k < (S.list 8).length
    · obtain ⟨hlb, hlc⟩ := (HH.out.rep.list 8 (by decide)).at k hlt
      have HS := Lib.hid (attTo_succ S k hlt)
      generalize gt (S.list 8) k = id at *
      cases hb : attacksB S id with
      | false =>
        have HA : Hid (∀ W, Grow w W → Calls Tryd.prog 39 #[.agg (stA V S.num), .int .i64 id] W fun e w' => e = .returned (.bool false) ∧ Grow W w') := fun W g => by
          have := attacks_any S V W (HH.out.grow g) id
          rw [hb] at this; exact this
        have HS2 : Hid (attTo S (k + 1) = attTo S k) := by rw [Hid, HS.out, hb]; simp
        clear hb
        go_wp2_with (go_at_call 39; refine (HA.out _ (by repeat (first | exact Grow.refl _ | refine Grow.andr ?_ | refine Grow.plus ?_ _ | refine Grow.alloc ?_ _ | refine Grow.drew ?_ | refine Grow.drewN ?_ _))).mono ?_; rintro e w' ⟨rfl, nx, rfl⟩)
        go_roundw
        case rel => exact ⟨k + 1, s, by omega, by go_num, rfl, by rw [HS2.out]; exact HM.out.grow (by repeat (first | exact Grow.refl _ | refine Grow.andr ?_ | refine Grow.plus ?_ _ | refine Grow.alloc ?_ _ | refine Grow.drew ?_ | refine Grow.drewN ?_ _)), by omega, (by repeat (first | exact Grow.refl _ | refine Grow.andr ?_ | refine Grow.plus ?_ _ | refine Grow.alloc ?_ _ | refine Grow.drew ?_ | refine Grow.drewN ?_ _))⟩
        case measure => simp [intOf]; omega
      | true =>
        have HA : Hid (∀ W, Grow w W → Calls Tryd.prog 39 #[.agg (stA V S.num), .int .i64 id] W fun e w' => e = .returned (.bool true) ∧ Grow W w') := fun W g => by
          have := attacks_any S V W (HH.out.grow g) id
          rw [hb] at this; exact this
        have HS2 : Hid (attTo S (k + 1) = attTo S k ++ [id]) := by rw [Hid, HS.out, hb]; simp
        clear hb
        go_wp2_with (first | (go_at_call 39; refine (HA.out _ (by repeat (first | exact Grow.refl _ | refine Grow.andr ?_ | refine Grow.plus ?_ _ | refine Grow.alloc ?_ _ | refine Grow.drew ?_ | refine Grow.drewN ?_ _))).mono ?_; rintro e w' ⟨rfl, nx, rfl⟩) | (at_builtin; refine wpList_made rfl _ _ 23 rfl 3 Tryd.t3 (.int .i64 0) 1 8 Tryd.underlying23 (by kernel_rfl) (by kernel_rfl) (by kernel_rfl) (by kernel_rfl) (by omega) rfl (w.alloc (.cells (stA V S.num) 29)) s (.mk _ 0 1 1) ((attTo S k).map I) [I id] rfl rfl (HM.out.grow (by repeat (first | exact Grow.refl _ | refine Grow.andr ?_ | refine Grow.plus ?_ _ | refine Grow.alloc ?_ _ | refine Grow.drew ?_ | refine Grow.drewN ?_ _))) (by repeat (first | exact Grow.refl _ | refine Grow.andr ?_ | refine Grow.plus ?_ _ | refine Grow.alloc ?_ _ | refine Grow.drew ?_ | refine Grow.drewN ?_ _)) (one_int _ _ _ (by go_simp)) (flat_one _) (flat_one [id]) (by simp only [Sl.n] at hsn ⊢; omega) ?_; intro s2 y c1 _ c3 _; have C := Lib.hid (And.intro c1 c3); clear c1 c3))
        go_roundw
        case rel => exact ⟨k + 1, s2, by omega, by go_num, rfl, by rw [HS2.out, List.map_append]; exact C.out.1.grow (by repeat (first | exact Grow.refl _ | refine Grow.andr ?_ | refine Grow.plus ?_ _ | refine Grow.alloc ?_ _ | refine Grow.drew ?_ | refine Grow.drewN ?_ _)), by rw [C.out.2]; simp only [Sl.n] at hsn ⊢; omega, (by repeat (first | exact Grow.refl _ | refine Grow.andr ?_ | refine Grow.plus ?_ _ | refine Grow.alloc ?_ _ | refine Grow.drew ?_ | refine Grow.drewN ?_ _))⟩
        case measure => simp [intOf]; omega
    · go_wp2_with fail
      go_ret
      have hkl : k = (S.list 8).length := by omega
      have hM := HM.out.cells
      rw [hkl, attTo, List.take_length] at hM
      exact ⟨s, rfl, (hM.grow (by repeat (first | exact Grow.refl _ | refine Grow.andr ?_ | refine Grow.plus ?_ _ | refine Grow.alloc ?_ _ | refine Grow.drew ?_ | refine Grow.drewN ?_ _))).ints, (by repeat (first | exact Grow.refl _ | refine Grow.andr ?_ | refine Grow.plus ?_ _ | refine Grow.alloc ?_ _ | refine Grow.drew ?_ | refine Grow.drewN ?_ _))⟩
end Go.Proofs.YtmmkmhpchoelkaaDoor
