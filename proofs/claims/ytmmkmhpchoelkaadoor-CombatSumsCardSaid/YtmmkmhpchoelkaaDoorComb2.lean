/-
  Blockers, power, what is needed.
-/
import Derived.Test.YtmmkmhpchoelkaaDoorComb
namespace Go.Proofs.YtmmkmhpchoelkaaDoor
open Go Go.RowKit

/-- Does an object of a right state block an attacker? -/
def blocksB (S : St) (a id : Int) : Bool := creatureB S id && (gt (rowAt S.objs id.toNat) 12 == a + 1)
def bloTo (S : St) (a : Int) (k : Nat) : List Int := ((S.list 8).take k).filter (blocksB S a)
/-- The blockers of an attacker. -/
def blockersN (S : St) (a : Int) : List Int := (S.list 8).filter (blocksB S a)
theorem bloTo_succ (S : St) (a : Int) (k : Nat) (h : k < (S.list 8).length) : bloTo S a (k + 1) = bloTo S a k ++ (if blocksB S a (gt (S.list 8) k) = true then [gt (S.list 8) k] else []) := by
  unfold bloTo
  rw [take_snoc _ _ h, List.filter_append]
  congr 1
  by_cases h : blocksB S a (gt (S.list 8) k) = true
  · rw [if_pos h, List.filter_cons_of_pos h]; rfl
  · rw [if_neg h, List.filter_cons_of_neg h]; rfl
set_option maxRecDepth 100000 in
set_option maxHeartbeats 2000000 in
theorem blockers_any (S : St) (V : SV) (w : World) (h : RS S V w) (a : Nat) (ha : a ≤ 1048576) :
    Calls Tryd.prog 61 #[.agg (stA V S.num), .int .i64 (a : Int)] w fun e w' => ∃ s : Sl, e = .returned s.val ∧ Ints w' s (blockersN S a) ∧ Grow w w' := by
  have hL := (h.rep.list 8 (by decide)).len
  have hSL := h.small.list 8 (by decide)
  have hSO := h.small.objs
  have HH := Lib.hid h
  clear h
  go_enter Tryd.func61, Tryd.ntmps61
  go_wp2_with fail
  go_loopw [5, 12] (fun v i wr => ∃ (k : Nat) (s : Sl), k ≤ (S.list 8).length ∧ i = .int .i64 k ∧ v = s.val ∧ Made (w.alloc (.cells (stA V S.num) 29)).heap.size wr s 1 ((bloTo S a k).map I) ∧ s.n ≤ k ∧ Grow (w.alloc (.cells (stA V S.num) 29)) wr) (fun _ i _ => (S.list 8).length - (intOf i).toNat)
  case atStart => exact ⟨0, .nil, by omega, rfl, rfl, Made.nil _ _ _, by simp [Sl.n], (by repeat (first | exact Grow.refl _ | refine Grow.andr ?_ | refine Grow.plus ?_ _ | refine Grow.alloc ?_ _ | refine Grow.drew ?_ | refine Grow.drewN ?_ _))⟩
  case round =>
    obtain ⟨k, s, hk, rfl, rfl, hM, hsn, hG⟩ := hrel
    obtain ⟨x, rfl⟩ := hG
    have HM := Lib.hid hM
    clear hM
    by_cases hlt : k < (S.list 8).length
    · obtain ⟨hlb, hlc⟩ := (HH.out.rep.list 8 (by decide)).at k hlt
      have HS := Lib.hid (bloTo_succ S a k hlt)
      generalize gt (S.list 8) k = id at *
      cases hc : creatureB S id with
      | false =>
        have HI : Hid (∀ W, Grow w W → Calls Tryd.prog 14 #[.agg (stA V S.num), .int .i64 id] W fun e w' => e = .returned (.bool false) ∧ Grow W w') := fun W g => by
          have := is_any S V W (HH.out.grow g) id
          rw [hc] at this; exact this
        have HS2 : Hid (bloTo S a (k + 1) = bloTo S a k) := by rw [Hid, HS.out, blocksB, hc]; simp
        clear hc
        go_wp2_with (go_at_call 14; refine (HI.out _ (by repeat (first | exact Grow.refl _ | refine Grow.andr ?_ | refine Grow.plus ?_ _ | refine Grow.alloc ?_ _ | refine Grow.drew ?_ | refine Grow.drewN ?_ _))).mono ?_; rintro e w' ⟨rfl, nx, rfl⟩)
        go_roundw
        case rel => exact ⟨k + 1, s, by omega, by go_num, rfl, by rw [HS2.out]; exact HM.out.grow (by repeat (first | exact Grow.refl _ | refine Grow.andr ?_ | refine Grow.plus ?_ _ | refine Grow.alloc ?_ _ | refine Grow.drew ?_ | refine Grow.drewN ?_ _)), by omega, (by repeat (first | exact Grow.refl _ | refine Grow.andr ?_ | refine Grow.plus ?_ _ | refine Grow.alloc ?_ _ | refine Grow.drew ?_ | refine Grow.drewN ?_ _))⟩
        case measure => simp [intOf]; omega
      | true =>
        have HI : Hid (∀ W, Grow w W → Calls Tryd.prog 14 #[.agg (stA V S.num), .int .i64 id] W fun e w' => e = .returned (.bool true) ∧ Grow W w') := fun W g => by
          have := is_any S V W (HH.out.grow g) id
          rw [hc] at this; exact this
        obtain ⟨c1, c2, _, _⟩ := creatureB_in hc
        obtain ⟨d, rfl⟩ := Int.eq_ofNat_of_zero_le c1
        have hd : d < S.objs.length := by omega
        have HF : Hid (∀ W, Grow w W → Calls Tryd.prog 67 #[.agg (stA V S.num), .int .i64 (d : Int), .int .i64 12] W fun e w' => e = .returned (.int .i64 (gt (rowAt S.objs d) 12)) ∧ Grow W w') := fun W g => field_any S V W (HH.out.grow g).rep d 12 hd (by decide)
        have HS3 : Hid (blocksB S a d = (gt (rowAt S.objs d) 12 == (a : Int) + 1)) := by rw [Hid, blocksB, hc, Int.toNat_natCast]; rfl
        clear hc c1
        generalize gt (rowAt S.objs d) 12 = f at *
        cases hb : (f == (a : Int) + 1) with
        | false =>
          have HS2 : Hid (bloTo S a (k + 1) = bloTo S a k) := by rw [Hid, HS.out, HS3.out, hb]; simp
          go_wp2_with (first | (go_at_call 14; refine (HI.out _ (by repeat (first | exact Grow.refl _ | refine Grow.andr ?_ | refine Grow.plus ?_ _ | refine Grow.alloc ?_ _ | refine Grow.drew ?_ | refine Grow.drewN ?_ _))).mono ?_; rintro e w' ⟨rfl, nx, rfl⟩) | (go_at_call 67; refine (HF.out _ (by repeat (first | exact Grow.refl _ | refine Grow.andr ?_ | refine Grow.plus ?_ _ | refine Grow.alloc ?_ _ | refine Grow.drew ?_ | refine Grow.drewN ?_ _))).mono ?_; rintro e w' ⟨rfl, nx, rfl⟩))
          go_roundw
          case rel => exact ⟨k + 1, s, by omega, by go_num, rfl, by rw [HS2.out]; exact HM.out.grow (by repeat (first | exact Grow.refl _ | refine Grow.andr ?_ | refine Grow.plus ?_ _ | refine Grow.alloc ?_ _ | refine Grow.drew ?_ | refine Grow.drewN ?_ _)), by omega, (by repeat (first | exact Grow.refl _ | refine Grow.andr ?_ | refine Grow.plus ?_ _ | refine Grow.alloc ?_ _ | refine Grow.drew ?_ | refine Grow.drewN ?_ _))⟩
          case measure => simp [intOf]; omega
        | true =>
          have HS2 : Hid (bloTo S a (k + 1) = bloTo S a k ++ [(d : Int)]) := by rw [Hid, HS.out, HS3.out, hb]; simp
          go_wp2_with (first | (go_at_call 14; refine (HI.out _ (by repeat (first | exact Grow.refl _ | refine Grow.andr ?_ | refine Grow.plus ?_ _ | refine Grow.alloc ?_ _ | refine Grow.drew ?_ | refine Grow.drewN ?_ _))).mono ?_; rintro e w' ⟨rfl, nx, rfl⟩) | (go_at_call 67; refine (HF.out _ (by repeat (first | exact Grow.refl _ | refine Grow.andr ?_ | refine Grow.plus ?_ _ | refine Grow.alloc ?_ _ | refine Grow.drew ?_ | refine Grow.drewN ?_ _))).mono ?_; rintro e w' ⟨rfl, nx, rfl⟩) | (at_builtin; refine wpList_made rfl _ _ 23 rfl 3 Tryd.t3 (.int .i64 0) 1 8 Tryd.underlying23 (by kernel_rfl) (by kernel_rfl) (by kernel_rfl) (by kernel_rfl) (by omega) rfl (w.alloc (.cells (stA V S.num) 29)) s (.mk _ 0 1 1) ((bloTo S a k).map I) [I (d : Int)] rfl rfl (HM.out.grow (by repeat (first | exact Grow.refl _ | refine Grow.andr ?_ | refine Grow.plus ?_ _ | refine Grow.alloc ?_ _ | refine Grow.drew ?_ | refine Grow.drewN ?_ _))) (by repeat (first | exact Grow.refl _ | refine Grow.andr ?_ | refine Grow.plus ?_ _ | refine Grow.alloc ?_ _ | refine Grow.drew ?_ | refine Grow.drewN ?_ _)) (one_int _ _ _ (by go_simp)) (flat_one _) (flat_one [(d : Int)]) (by simp only [Sl.n] at hsn ⊢; omega) ?_; intro s2 y c1 _ c3 _; have C := Lib.hid (And.intro c1 c3); clear c1 c3))
          go_roundw
          case rel => exact ⟨k + 1, s2, by omega, by go_num, rfl, by rw [HS2.out, List.map_append]; exact C.out.1.grow (by repeat (first | exact Grow.refl _ | refine Grow.andr ?_ | refine Grow.plus ?_ _ | refine Grow.alloc ?_ _ | refine Grow.drew ?_ | refine Grow.drewN ?_ _)), by rw [C.out.2]; simp only [Sl.n] at hsn ⊢; omega, (by repeat (first | exact Grow.refl _ | refine Grow.andr ?_ | refine Grow.plus ?_ _ | refine Grow.alloc ?_ _ | refine Grow.drew ?_ | refine Grow.drewN ?_ _))⟩
          case measure => simp [intOf]; omega
    · go_wp2_with fail
      go_ret
      have hkl : k = (S.list 8).length := by omega
      have hM := HM.out.cells
      rw [hkl, bloTo, List.take_length] at hM
      exact ⟨s, rfl, (hM.grow (by repeat (first | exact Grow.refl _ | refine Grow.andr ?_ | refine Grow.plus ?_ _ | refine Grow.alloc ?_ _ | refine Grow.drew ?_ | refine Grow.drewN ?_ _))).ints, (by repeat (first | exact Grow.refl _ | refine Grow.andr ?_ | refine Grow.plus ?_ _ | refine Grow.alloc ?_ _ | refine Grow.drew ?_ | refine Grow.drewN ?_ _))⟩
/-- A creature's power, 0 at least. -/
def powerN (S : St) (id : Int) : Int := if creatureB S id = true then max (gt (shapeN S id.toNat) 0) 0 else 0
set_option maxRecDepth 100000 in
theorem power_any (S : St) (V : SV) (w : World) (h : RS S V w) (id : Int) :
    Calls Tryd.prog 60 #[.agg (stA V S.num), .int .i64 id] w fun e w' => e = .returned (.int .i64 (powerN S id)) ∧ Grow w w' := by
  have HH := Lib.hid h
  clear h
  have hsl : (shapeN S id.toNat).length = 3 := rfl
  cases hc : creatureB S id with
  | true =>
    have HO : Hid (∀ W, Grow w W → Calls Tryd.prog 16 #[.agg (stA V S.num), .int .i64 id] W fun e w' => e = .returned (.tuple #[.agg (cellsOf (shapeN S id.toNat)), .nilIface]) ∧ Grow W w') := fun W g => by
      have := of_any S V W (HH.out.grow g) id
      rw [ofV, if_pos hc] at this; exact this
    have HP : Hid (powerN S id = max (gt (shapeN S id.toNat) 0) 0) := by rw [Hid, powerN, if_pos hc]
    clear hc
    go_enter Tryd.func60, Tryd.ntmps60
    go_wp2_with (go_at_call 16; refine (HO.out _ (by repeat (first | exact Grow.refl _ | refine Grow.andr ?_ | refine Grow.plus ?_ _ | refine Grow.alloc ?_ _ | refine Grow.drew ?_ | refine Grow.drewN ?_ _))).mono ?_; rintro e w' ⟨rfl, nx, rfl⟩)
    go_ret
    exact ⟨ret_int HP.out.symm, (by repeat (first | exact Grow.refl _ | refine Grow.andr ?_ | refine Grow.plus ?_ _ | refine Grow.alloc ?_ _ | refine Grow.drew ?_ | refine Grow.drewN ?_ _))⟩
  | false =>
    have HO : Hid (∀ W, Grow w W → Calls Tryd.prog 16 #[.agg (stA V S.num), .int .i64 id] W fun e w' => e = .returned (.tuple #[.agg (cellsOf [0, 0, 0]), .iface 72 (.int .i64 4)]) ∧ Grow W w') := fun W g => by
      have := of_any S V W (HH.out.grow g) id
      rw [ofV, if_neg (by rw [hc]; decide)] at this; exact this
    have HP : Hid (powerN S id = 0) := by rw [Hid, powerN, if_neg (by rw [hc]; decide)]
    clear hc
    go_enter Tryd.func60, Tryd.ntmps60
    go_wp2_with (go_at_call 16; refine (HO.out _ (by repeat (first | exact Grow.refl _ | refine Grow.andr ?_ | refine Grow.plus ?_ _ | refine Grow.alloc ?_ _ | refine Grow.drew ?_ | refine Grow.drewN ?_ _))).mono ?_; rintro e w' ⟨rfl, nx, rfl⟩)
    go_ret
    exact ⟨ret_int HP.out.symm, (by repeat (first | exact Grow.refl _ | refine Grow.andr ?_ | refine Grow.plus ?_ _ | refine Grow.alloc ?_ _ | refine Grow.drew ?_ | refine Grow.drewN ?_ _))⟩
/-- How much an attacker needs for a blocker. -/
def needsN (S : St) (a b : Int) : Int := if hasB S a 16 = true then 1 else if creatureB S b = true then max (wrap64 (gt (shapeN S b.toNat) 1 - gt (rowAt S.objs b.toNat) 6)) 0 else 0
set_option maxRecDepth 100000 in
theorem needs_any (S : St) (V : SV) (w : World) (h : RS S V w) (a b : Int) :
    Calls Tryd.prog 63 #[.agg (stA V S.num), .int .i64 a, .int .i64 b] w fun e w' => e = .returned (.int .i64 (needsN S a b)) ∧ Grow w w' := by
  have HH := Lib.hid h
  clear h
  cases hw : hasB S a 16 with
  | true =>
    have HW : Hid (∀ W, Grow w W → Calls Tryd.prog 62 #[.agg (stA V S.num), .int .i64 a, .int .i64 16] W fun e w' => e = .returned (.bool true) ∧ Grow W w') := fun W g => by
      have := has_word S V W (HH.out.grow g) a 16 (by decide) (by decide)
      rw [hw] at this; exact this
    have HP : Hid (needsN S a b = 1) := by rw [Hid, needsN, if_pos hw]
    clear hw
    go_enter Tryd.func63, Tryd.ntmps63
    go_wp2_with (go_at_call 62; refine (HW.out _ (by repeat (first | exact Grow.refl _ | refine Grow.andr ?_ | refine Grow.plus ?_ _ | refine Grow.alloc ?_ _ | refine Grow.drew ?_ | refine Grow.drewN ?_ _))).mono ?_; rintro e w' ⟨rfl, nx, rfl⟩)
    go_ret
    exact ⟨ret_int HP.out.symm, (by repeat (first | exact Grow.refl _ | refine Grow.andr ?_ | refine Grow.plus ?_ _ | refine Grow.alloc ?_ _ | refine Grow.drew ?_ | refine Grow.drewN ?_ _))⟩
  | false =>
    have HW : Hid (∀ W, Grow w W → Calls Tryd.prog 62 #[.agg (stA V S.num), .int .i64 a, .int .i64 16] W fun e w' => e = .returned (.bool false) ∧ Grow W w') := fun W g => by
      have := has_word S V W (HH.out.grow g) a 16 (by decide) (by decide)
      rw [hw] at this; exact this
    cases hc : creatureB S b with
    | true =>
      have HL : Hid (∀ W, Grow w W → Calls Tryd.prog 95 #[.agg (stA V S.num), .int .i64 b] W fun e w' => e = .returned (.tuple #[.int .i64 (wrap64 (gt (shapeN S b.toNat) 1 - gt (rowAt S.objs b.toNat) 6)), .nilIface]) ∧ Grow W w') := fun W g => by
        have := left_any S V W (HH.out.grow g) b
        rw [leftV, if_pos hc] at this; exact this
      have HP : Hid (needsN S a b = max (wrap64 (gt (shapeN S b.toNat) 1 - gt (rowAt S.objs b.toNat) 6)) 0) := by rw [Hid, needsN, if_neg (by rw [hw]; decide), if_pos hc]
      clear hw hc
      generalize wrap64 (gt (shapeN S b.toNat) 1 - gt (rowAt S.objs b.toNat) 6) = v at *
      go_enter Tryd.func63, Tryd.ntmps63
      go_wp2_with (first | (go_at_call 62; refine (HW.out _ (by repeat (first | exact Grow.refl _ | refine Grow.andr ?_ | refine Grow.plus ?_ _ | refine Grow.alloc ?_ _ | refine Grow.drew ?_ | refine Grow.drewN ?_ _))).mono ?_; rintro e w' ⟨rfl, nx, rfl⟩) | (go_at_call 95; refine (HL.out _ (by repeat (first | exact Grow.refl _ | refine Grow.andr ?_ | refine Grow.plus ?_ _ | refine Grow.alloc ?_ _ | refine Grow.drew ?_ | refine Grow.drewN ?_ _))).mono ?_; rintro e w' ⟨rfl, nx, rfl⟩))
      go_ret
      exact ⟨ret_int HP.out.symm, (by repeat (first | exact Grow.refl _ | refine Grow.andr ?_ | refine Grow.plus ?_ _ | refine Grow.alloc ?_ _ | refine Grow.drew ?_ | refine Grow.drewN ?_ _))⟩
    | false =>
      have HL : Hid (∀ W, Grow w W → Calls Tryd.prog 95 #[.agg (stA V S.num), .int .i64 b] W fun e w' => e = .returned (.tuple #[.int .i64 0, .iface 72 (.int .i64 4)]) ∧ Grow W w') := fun W g => by
        have := left_any S V W (HH.out.grow g) b
        rw [leftV, if_neg (by rw [hc]; decide)] at this; exact this
      have HP : Hid (needsN S a b = 0) := by rw [Hid, needsN, if_neg (by rw [hw]; decide), if_neg (by rw [hc]; decide)]
      clear hw hc
      go_enter Tryd.func63, Tryd.ntmps63
      go_wp2_with (first | (go_at_call 62; refine (HW.out _ (by repeat (first | exact Grow.refl _ | refine Grow.andr ?_ | refine Grow.plus ?_ _ | refine Grow.alloc ?_ _ | refine Grow.drew ?_ | refine Grow.drewN ?_ _))).mono ?_; rintro e w' ⟨rfl, nx, rfl⟩) | (go_at_call 95; refine (HL.out _ (by repeat (first | exact Grow.refl _ | refine Grow.andr ?_ | refine Grow.plus ?_ _ | refine Grow.alloc ?_ _ | refine Grow.drew ?_ | refine Grow.drewN ?_ _))).mono ?_; rintro e w' ⟨rfl, nx, rfl⟩))
      go_ret
      exact ⟨ret_int HP.out.symm, (by repeat (first | exact Grow.refl _ | refine Grow.andr ?_ | refine Grow.plus ?_ _ | refine Grow.alloc ?_ _ | refine Grow.drew ?_ | refine Grow.drewN ?_ _))⟩
theorem at_any (w : World) (b : Nat) (hb : b ≤ 1048576) : Calls Tryd.prog 64 #[.int .i64 (b : Int)] w fun e w' => e = .returned (.int .i64 ((b : Int) + 1)) ∧ Grow w w' := by
  have hne : ((b : Int) == 9223372036854775807) = false := by
    rw [beq_eq_false_iff_ne]; omega
  go_enter Tryd.func64, Tryd.ntmps64
  go_wp2_with fail
  go_ret
  exact ⟨rfl, (by repeat (first | exact Grow.refl _ | refine Grow.andr ?_ | refine Grow.plus ?_ _ | refine Grow.alloc ?_ _ | refine Grow.drew ?_ | refine Grow.drewN ?_ _))⟩
theorem foe_any (w : World) (p : Int) (h0 : 0 ≤ p) (h1 : p ≤ 1) : Calls Tryd.prog 59 #[.int .i64 p] w fun e w' => e = .returned (.int .i64 (1 - p)) ∧ Grow w w' := by
  have : p = 0 ∨ p = 1 := by omega
  rcases this with rfl | rfl
  · go_enter Tryd.func59, Tryd.ntmps59
    go_wp2_with fail
    go_ret
    exact ⟨rfl, (by repeat (first | exact Grow.refl _ | refine Grow.andr ?_ | refine Grow.plus ?_ _ | refine Grow.alloc ?_ _ | refine Grow.drew ?_ | refine Grow.drewN ?_ _))⟩
  · go_enter Tryd.func59, Tryd.ntmps59
    go_wp2_with fail
    go_ret
    exact ⟨rfl, (by repeat (first | exact Grow.refl _ | refine Grow.andr ?_ | refine Grow.plus ?_ _ | refine Grow.alloc ?_ _ | refine Grow.drew ?_ | refine Grow.drewN ?_ _))⟩
end Go.Proofs.YtmmkmhpchoelkaaDoor
