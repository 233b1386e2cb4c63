/-
  Who attacks, who blocks, how strong.
  Blockers, power, what is needed.
-/
import Derived.Test.YtgobdndjemicjaaGreatDoorMIs
namespace Go.Proofs.YtgobdndjemicjaaGreatDoor
open Go Go.RowKit

set_option maxRecDepth 100000 in
theorem field_any (S : St) (V : SV) (w : World) (R : RepSt w V S) (d f : Nat) (hd : d < S.objs.length) (hf : f < 18) :
    Calls Tryz.prog 215 #[.agg (stA V S.num), .int .i64 (d : Int), .int .i64 (f : Int)] w fun e w' => e = .returned (.int .i64 (gt (rowAt S.objs d) f)) ∧ Grow w w' := by
  have hN := R.objs.len
  obtain ⟨hob, how, hosz, hosub, hocell⟩ := R.objs.at (by omega) d hd
  have hoc := hocell f hf
  have hd' : (d : Int) < S.objs.length := by omega
  have hf' : (f : Int) < 18 := by omega
  clear hocell hosub hosz R
  generalize gt (rowAt S.objs d) f = v at *
  go_enter Tryz.func215, Tryz.ntmps215
  go_wp2_with fail
  go_ret
  exact ⟨rfl, grI⟩
/-- Does an object of a right state attack? -/
def attacksB (S : St) (id : Int) : Bool := creatureB S id && (gt (rowAt S.objs id.toNat) 11 == 1)
set_option maxRecDepth 100000 in
theorem attacks_any (S : St) (V : SV) (w : World) (h : RS S V w) (id : Int) :
    Calls Tryz.prog 165 #[.agg (stA V S.num), .int .i64 id] w fun e w' => e = .returned (.bool (attacksB S id)) ∧ Grow w w' := by
  have HH := Lib.hid h
  clear h
  have HB : Hid (attacksB S id = (creatureB S id && (gt (rowAt S.objs id.toNat) 11 == 1))) := rfl
  cases hc : creatureB S id with
  | true =>
    have HI : Hid (∀ W, Grow w W → Calls Tryz.prog 214 #[.agg (stA V S.num), .int .i64 id] W fun e w' => e = .returned (.bool true) ∧ Grow W w') := fun W g => by
      have := is_any S V W (HH.out.grow g) id
      rw [hc] at this; exact this
    obtain ⟨c1, c2, _, _⟩ := creatureB_in hc
    obtain ⟨d, rfl⟩ := Int.eq_ofNat_of_zero_le c1
    have hd : d < S.objs.length := by omega
    rw [hc, Int.toNat_natCast] at HB
    clear hc c1
    go_enter Tryz.func165, Tryz.ntmps165
    go_wp2_with (first | (go_at_call 214; refine (HI.out _ grI).mono ?_; rintro e w' ⟨rfl, nx, rfl⟩) | (go_at_call 215; refine (field_any S V _ (HH.out.grow grI).rep d 11 hd (by decide)).mono ?_; rintro e w' ⟨rfl, nx, rfl⟩))
    go_ret
    exact ⟨ret_bool (by rw [HB.out]; simp), grI⟩
  | false =>
    have HI : Hid (∀ W, Grow w W → Calls Tryz.prog 214 #[.agg (stA V S.num), .int .i64 id] W fun e w' => e = .returned (.bool false) ∧ Grow W w') := fun W g => by
      have := is_any S V W (HH.out.grow g) id
      rw [hc] at this; exact this
    rw [hc] at HB
    clear hc
    go_enter Tryz.func165, Tryz.ntmps165
    go_wp2_with (go_at_call 214; refine (HI.out _ grI).mono ?_; rintro e w' ⟨rfl, nx, rfl⟩)
    go_ret
    exact ⟨ret_bool (by rw [HB.out]; simp), grI⟩
def attTo (S : St) (k : Nat) : List Int := ((S.list 8).take k).filter (attacksB S)
/-- The attackers of a right state. -/
def attackersN (S : St) : List Int := (S.list 8).filter (attacksB S)
theorem attTo_succ (S : St) (k : Nat) (h : k < (S.list 8).length) : attTo S (k + 1) = attTo S k ++ (if attacksB S (gt (S.list 8) k) = true then [gt (S.list 8) k] else []) := by
  unfold attTo
  rw [take_snoc _ _ h, List.filter_append]
  congr 1
  by_cases h : attacksB S (gt (S.list 8) k) = true
  · rw [if_pos h, List.filter_cons_of_pos h]; rfl
  · rw [if_neg h, List.filter_cons_of_neg h]; rfl
set_option maxRecDepth 100000 in
set_option maxHeartbeats 1000000 in
theorem attackers_any (S : St) (V : SV) (w : World) (h : RS S V w) :
    Calls Tryz.prog 109 #[.agg (stA V S.num)] w fun e w' => ∃ s : Sl, e = .returned s.val ∧ Ints w' s (attackersN S) ∧ Grow w w' := by
  have hL := (h.rep.list 8 (by decide)).len
  have hSL := h.small.list 8 (by decide)
  have HH := Lib.hid h
  clear h
  go_enter Tryz.func109, Tryz.ntmps109
  go_wp2_with fail
  go_loopw [3, 10] (fun v i wr => ∃ (k : Nat) (s : Sl), k ≤ (S.list 8).length ∧ i = .int .i64 k ∧ v = s.val ∧ Made (w.alloc (.cells (stA V S.num) 29)).heap.size wr s 1 ((attTo S k).map I) ∧ s.n ≤ k ∧ Grow (w.alloc (.cells (stA V S.num) 29)) wr) (fun _ i _ => (S.list 8).length - (intOf i).toNat)
  case atStart => exact ⟨0, .nil, by omega, rfl, rfl, Made.nil _ _ _, by simp [Sl.n], grI⟩
  case round =>
    obtain ⟨k, s, hk, rfl, rfl, hM, hsn, hG⟩ := hrel
    obtain ⟨x, rfl⟩ := hG
    have HM := Lib.hid hM
    clear hM
    by_cases hlt : k < (S.list 8).length
    · obtain ⟨hlb, hlc⟩ := (HH.out.rep.list 8 (by decide)).at k hlt
      have HS := Lib.hid (attTo_succ S k hlt)
      generalize gt (S.list 8) k = id at *
      cases hb : attacksB S id with
      | false =>
        have HA : Hid (∀ W, Grow w W → Calls Tryz.prog 165 #[.agg (stA V S.num), .int .i64 id] W fun e w' => e = .returned (.bool false) ∧ Grow W w') := fun W g => by
          have := attacks_any S V W (HH.out.grow g) id
          rw [hb] at this; exact this
        have HS2 : Hid (attTo S (k + 1) = attTo S k) := by rw [Hid, HS.out, hb]; simp
        clear hb
        go_wp2_with (go_at_call 165; refine (HA.out _ grI).mono ?_; rintro e w' ⟨rfl, nx, rfl⟩)
        go_roundw
        case rel => exact ⟨k + 1, s, by omega, by go_num, rfl, by rw [HS2.out]; exact HM.out.grow grI, by omega, grI⟩
        case measure => simp [intOf]; omega
      | true =>
        have HA : Hid (∀ W, Grow w W → Calls Tryz.prog 165 #[.agg (stA V S.num), .int .i64 id] W fun e w' => e = .returned (.bool true) ∧ Grow W w') := fun W g => by
          have := attacks_any S V W (HH.out.grow g) id
          rw [hb] at this; exact this
        have HS2 : Hid (attTo S (k + 1) = attTo S k ++ [id]) := by rw [Hid, HS.out, hb]; simp
        clear hb
        go_wp2_with (first | (go_at_call 165; refine (HA.out _ grI).mono ?_; rintro e w' ⟨rfl, nx, rfl⟩) | (at_builtin; refine wpList_made rfl _ _ 23 rfl 3 Tryz.t3 (.int .i64 0) 1 8 Tryz.underlying23 (by kernel_rfl) (by kernel_rfl) (by kernel_rfl) (by kernel_rfl) (by omega) rfl (w.alloc (.cells (stA V S.num) 29)) s (.mk _ 0 1 1) ((attTo S k).map I) [I id] rfl rfl (HM.out.grow grI) grI (one_int _ _ _ (by go_simp)) (flat_one _) (flat_one [id]) (by simp only [Sl.n] at hsn ⊢; omega) ?_; intro s2 y c1 _ c3 _; have C := Lib.hid (And.intro c1 c3); clear c1 c3))
        go_roundw
        case rel => exact ⟨k + 1, s2, by omega, by go_num, rfl, by rw [HS2.out, List.map_append]; exact C.out.1.grow grI, by rw [C.out.2]; simp only [Sl.n] at hsn ⊢; omega, grI⟩
        case measure => simp [intOf]; omega
    · go_wp2_with fail
      go_ret
      have hkl : k = (S.list 8).length := by omega
      have hM := HM.out.cells
      rw [hkl, attTo, List.take_length] at hM
      exact ⟨s, rfl, (hM.grow grI).ints, grI⟩
end Go.Proofs.YtgobdndjemicjaaGreatDoor
namespace Go.Proofs.YtgobdndjemicjaaGreatDoor
open Go Go.RowKit

/-- Does an object of a right state block an attacker? -/
def blocksB (S : St) (a id : Int) : Bool := creatureB S id && (gt (rowAt S.objs id.toNat) 12 == a + 1)
def bloTo (S : St) (a : Int) (k : Nat) : List Int := ((S.list 8).take k).filter (blocksB S a)
/-- The blockers of an attacker. -/
def blockersN (S : St) (a : Int) : List Int := (S.list 8).filter (blocksB S a)
theorem bloTo_succ (S : St) (a : Int) (k : Nat) (h : k < (S.list 8).length) : bloTo S a (k + 1) = bloTo S a k ++ (if blocksB S a (gt (S.list 8) k) = true then [gt (S.list 8) k] else []) := by
  unfold bloTo
  rw [take_snoc _ _ h, List.filter_append]
  congr 1
  by_cases h : blocksB S a (gt (S.list 8) k) = true
  · rw [if_pos h, List.filter_cons_of_pos h]; rfl
  · rw [if_neg h, List.filter_cons_of_neg h]; rfl
set_option maxRecDepth 100000 in
set_option maxHeartbeats 2000000 in
theorem blockers_any (S : St) (V : SV) (w : World) (h : RS S V w) (a : Nat) (ha : a ≤ 1048576) :
    Calls Tryz.prog 249 #[.agg (stA V S.num), .int .i64 (a : Int)] w fun e w' => ∃ s : Sl, e = .returned s.val ∧ Ints w' s (blockersN S a) ∧ Grow w w' := by
  have hL := (h.rep.list 8 (by decide)).len
  have hSL := h.small.list 8 (by decide)
  have hSO := h.small.objs
  have HH := Lib.hid h
  clear h
  go_enter Tryz.func249, Tryz.ntmps249
  go_wp2_with fail
  go_loopw [5, 12] (fun v i wr => ∃ (k : Nat) (s : Sl), k ≤ (S.list 8).length ∧ i = .int .i64 k ∧ v = s.val ∧ Made (w.alloc (.cells (stA V S.num) 29)).heap.size wr s 1 ((bloTo S a k).map I) ∧ s.n ≤ k ∧ Grow (w.alloc (.cells (stA V S.num) 29)) wr) (fun _ i _ => (S.list 8).length - (intOf i).toNat)
  case atStart => exact ⟨0, .nil, by omega, rfl, rfl, Made.nil _ _ _, by simp [Sl.n], grI⟩
  case round =>
    obtain ⟨k, s, hk, rfl, rfl, hM, hsn, hG⟩ := hrel
    obtain ⟨x, rfl⟩ := hG
    have HM := Lib.hid hM
    clear hM
    by_cases hlt : k < (S.list 8).length
    · obtain ⟨hlb, hlc⟩ := (HH.out.rep.list 8 (by decide)).at k hlt
      have HS := Lib.hid (bloTo_succ S a k hlt)
      generalize gt (S.list 8) k = id at *
      cases hc : creatureB S id with
      | false =>
        have HI : Hid (∀ W, Grow w W → Calls Tryz.prog 214 #[.agg (stA V S.num), .int .i64 id] W fun e w' => e = .returned (.bool false) ∧ Grow W w') := fun W g => by
          have := is_any S V W (HH.out.grow g) id
          rw [hc] at this; exact this
        have HS2 : Hid (bloTo S a (k + 1) = bloTo S a k) := by rw [Hid, HS.out, blocksB, hc]; simp
        clear hc
        go_wp2_with (go_at_call 214; refine (HI.out _ grI).mono ?_; rintro e w' ⟨rfl, nx, rfl⟩)
        go_roundw
        case rel => exact ⟨k + 1, s, by omega, by go_num, rfl, by rw [HS2.out]; exact HM.out.grow grI, by omega, grI⟩
        case measure => simp [intOf]; omega
      | true =>
        have HI : Hid (∀ W, Grow w W → Calls Tryz.prog 214 #[.agg (stA V S.num), .int .i64 id] W fun e w' => e = .returned (.bool true) ∧ Grow W w') := fun W g => by
          have := is_any S V W (HH.out.grow g) id
          rw [hc] at this; exact this
        obtain ⟨c1, c2, _, _⟩ := creatureB_in hc
        obtain ⟨d, rfl⟩ := Int.eq_ofNat_of_zero_le c1
        have hd : d < S.objs.length := by omega
        have HF : Hid (∀ W, Grow w W → Calls Tryz.prog 215 #[.agg (stA V S.num), .int .i64 (d : Int), .int .i64 12] W fun e w' => e = .returned (.int .i64 (gt (rowAt S.objs d) 12)) ∧ Grow W w') := fun W g => field_any S V W (HH.out.grow g).rep d 12 hd (by decide)
        have HS3 : Hid (blocksB S a d = (gt (rowAt S.objs d) 12 == (a : Int) + 1)) := by rw [Hid, blocksB, hc, Int.toNat_natCast]; rfl
        clear hc c1
        generalize gt (rowAt S.objs d) 12 = f at *
        cases hb : (f == (a : Int) + 1) with
        | false =>
          have HS2 : Hid (bloTo S a (k + 1) = bloTo S a k) := by rw [Hid, HS.out, HS3.out, hb]; simp
          go_wp2_with (first | (go_at_call 214; refine (HI.out _ grI).mono ?_; rintro e w' ⟨rfl, nx, rfl⟩) | (go_at_call 215; refine (HF.out _ grI).mono ?_; rintro e w' ⟨rfl, nx, rfl⟩))
          go_roundw
          case rel => exact ⟨k + 1, s, by omega, by go_num, rfl, by rw [HS2.out]; exact HM.out.grow grI, by omega, grI⟩
          case measure => simp [intOf]; omega
        | true =>
          have HS2 : Hid (bloTo S a (k + 1) = bloTo S a k ++ [(d : Int)]) := by rw [Hid, HS.out, HS3.out, hb]; simp
          go_wp2_with (first | (go_at_call 214; refine (HI.out _ grI).mono ?_; rintro e w' ⟨rfl, nx, rfl⟩) | (go_at_call 215; refine (HF.out _ grI).mono ?_; rintro e w' ⟨rfl, nx, rfl⟩) | (at_builtin; refine wpList_made rfl _ _ 23 rfl 3 Tryz.t3 (.int .i64 0) 1 8 Tryz.underlying23 (by kernel_rfl) (by kernel_rfl) (by kernel_rfl) (by kernel_rfl) (by omega) rfl (w.alloc (.cells (stA V S.num) 29)) s (.mk _ 0 1 1) ((bloTo S a k).map I) [I (d : Int)] rfl rfl (HM.out.grow grI) grI (one_int _ _ _ (by go_simp)) (flat_one _) (flat_one [(d : Int)]) (by simp only [Sl.n] at hsn ⊢; omega) ?_; intro s2 y c1 _ c3 _; have C := Lib.hid (And.intro c1 c3); clear c1 c3))
          go_roundw
          case rel => exact ⟨k + 1, s2, by omega, by go_num, rfl, by rw [HS2.out, List.map_append]; exact C.out.1.grow grI, by rw [C.out.2]; simp only [Sl.n] at hsn ⊢; omega, grI⟩
          case measure => simp [intOf]; omega
    · go_wp2_with fail
      go_ret
      have hkl : k = (S.list 8).length := by omega
      have hM := HM.out.cells
      rw [hkl, bloTo, List.take_length] at hM
      exact ⟨s, rfl, (hM.grow grI).ints, grI⟩
/-- A creature's power, 0 at least. -/
def powerN (S : St) (id : Int) : Int := if creatureB S id = true then max (gt (shapeN S id.toNat) 0) 0 else 0
set_option maxRecDepth 100000 in
theorem power_any (S : St) (V : SV) (w : World) (h : RS S V w) (id : Int) :
    Calls Tryz.prog 248 #[.agg (stA V S.num), .int .i64 id] w fun e w' => e = .returned (.int .i64 (powerN S id)) ∧ Grow w w' := by
  have HH := Lib.hid h
  clear h
  have hsl : (shapeN S id.toNat).length = 3 := rfl
  cases hc : creatureB S id with
  | true =>
    have HO : Hid (∀ W, Grow w W → Calls Tryz.prog 253 #[.agg (stA V S.num), .int .i64 id] W fun e w' => e = .returned (.tuple #[.agg (cellsOf (shapeN S id.toNat)), .nilIface]) ∧ Grow W w') := fun W g => by
      have := of_any S V W (HH.out.grow g) id
      rw [ofV, if_pos hc] at this; exact this
    have HP : Hid (powerN S id = max (gt (shapeN S id.toNat) 0) 0) := by rw [Hid, powerN, if_pos hc]
    clear hc
    go_enter Tryz.func248, Tryz.ntmps248
    go_wp2_with (go_at_call 253; refine (HO.out _ grI).mono ?_; rintro e w' ⟨rfl, nx, rfl⟩)
    go_ret
    exact ⟨ret_int HP.out.symm, grI⟩
  | false =>
    have HO : Hid (∀ W, Grow w W → Calls Tryz.prog 253 #[.agg (stA V S.num), .int .i64 id] W fun e w' => e = .returned (.tuple #[.agg (cellsOf [0, 0, 0]), .iface 96 (.int .i64 4)]) ∧ Grow W w') := fun W g => by
      have := of_any S V W (HH.out.grow g) id
      rw [ofV, if_neg (by rw [hc]; decide)] at this; exact this
    have HP : Hid (powerN S id = 0) := by rw [Hid, powerN, if_neg (by rw [hc]; decide)]
    clear hc
    go_enter Tryz.func248, Tryz.ntmps248
    go_wp2_with (go_at_call 253; refine (HO.out _ grI).mono ?_; rintro e w' ⟨rfl, nx, rfl⟩)
    go_ret
    exact ⟨ret_int HP.out.symm, grI⟩
/-- How much an attacker needs for a blocker. -/
def needsN (S : St) (a b : Int) : Int := if hasB S a 16 = true then 1 else if creatureB S b = true then max (wrap64 (gt (shapeN S b.toNat) 1 - gt (rowAt S.objs b.toNat) 6)) 0 else 0
set_option maxRecDepth 100000 in
theorem needs_any (S : St) (V : SV) (w : World) (h : RS S V w) (a b : Int) :
    Calls Tryz.prog 250 #[.agg (stA V S.num), .int .i64 a, .int .i64 b] w fun e w' => e = .returned (.int .i64 (needsN S a b)) ∧ Grow w w' := by
  have HH := Lib.hid h
  clear h
  cases hw : hasB S a 16 with
  | true =>
    have HW : Hid (∀ W, Grow w W → Calls Tryz.prog 221 #[.agg (stA V S.num), .int .i64 a, .int .i64 16] W fun e w' => e = .returned (.bool true) ∧ Grow W w') := fun W g => by
      have := has_word S V W (HH.out.grow g) a 16 (by decide) (by decide)
      rw [hw] at this; exact this
    have HP : Hid (needsN S a b = 1) := by rw [Hid, needsN, if_pos hw]
    clear hw
    go_enter Tryz.func250, Tryz.ntmps250
    go_wp2_with (go_at_call 221; refine (HW.out _ grI).mono ?_; rintro e w' ⟨rfl, nx, rfl⟩)
    go_ret
    exact ⟨ret_int HP.out.symm, grI⟩
  | false =>
    have HW : Hid (∀ W, Grow w W → Calls Tryz.prog 221 #[.agg (stA V S.num), .int .i64 a, .int .i64 16] W fun e w' => e = .returned (.bool false) ∧ Grow W w') := fun W g => by
      have := has_word S V W (HH.out.grow g) a 16 (by decide) (by decide)
      rw [hw] at this; exact this
    cases hc : creatureB S b with
    | true =>
      have HL : Hid (∀ W, Grow w W → Calls Tryz.prog 235 #[.agg (stA V S.num), .int .i64 b] W fun e w' => e = .returned (.tuple #[.int .i64 (wrap64 (gt (shapeN S b.toNat) 1 - gt (rowAt S.objs b.toNat) 6)), .nilIface]) ∧ Grow W w') := fun W g => by
        have := sleft_any S V W (HH.out.grow g) b
        rw [leftV, if_pos hc] at this; exact this
      have HP : Hid (needsN S a b = max (wrap64 (gt (shapeN S b.toNat) 1 - gt (rowAt S.objs b.toNat) 6)) 0) := by rw [Hid, needsN, if_neg (by rw [hw]; decide), if_pos hc]
      clear hw hc
      generalize wrap64 (gt (shapeN S b.toNat) 1 - gt (rowAt S.objs b.toNat) 6) = v at *
      go_enter Tryz.func250, Tryz.ntmps250
      go_wp2_with (first | (go_at_call 221; refine (HW.out _ grI).mono ?_; rintro e w' ⟨rfl, nx, rfl⟩) | (go_at_call 235; refine (HL.out _ grI).mono ?_; rintro e w' ⟨rfl, nx, rfl⟩))
      go_ret
      exact ⟨ret_int HP.out.symm, grI⟩
    | false =>
      have HL : Hid (∀ W, Grow w W → Calls Tryz.prog 235 #[.agg (stA V S.num), .int .i64 b] W fun e w' => e = .returned (.tuple #[.int .i64 0, .iface 96 (.int .i64 4)]) ∧ Grow W w') := fun W g => by
        have := sleft_any S V W (HH.out.grow g) b
        rw [leftV, if_neg (by rw [hc]; decide)] at this; exact this
      have HP : Hid (needsN S a b = 0) := by rw [Hid, needsN, if_neg (by rw [hw]; decide), if_neg (by rw [hc]; decide)]
      clear hw hc
      go_enter Tryz.func250, Tryz.ntmps250
      go_wp2_with (first | (go_at_call 221; refine (HW.out _ grI).mono ?_; rintro e w' ⟨rfl, nx, rfl⟩) | (go_at_call 235; refine (HL.out _ grI).mono ?_; rintro e w' ⟨rfl, nx, rfl⟩))
      go_ret
      exact ⟨ret_int HP.out.symm, grI⟩
theorem at_any (w : World) (b : Nat) (hb : b ≤ 1048576) : Calls Tryz.prog 251 #[.int .i64 (b : Int)] w fun e w' => e = .returned (.int .i64 ((b : Int) + 1)) ∧ Grow w w' := by
  have hne : ((b : Int) == 9223372036854775807) = false := by
    rw [beq_eq_false_iff_ne]; omega
  go_enter Tryz.func251, Tryz.ntmps251
  go_wp2_with fail
  go_ret
  exact ⟨rfl, grI⟩
theorem foe_any (w : World) (p : Int) (h0 : 0 ≤ p) (h1 : p ≤ 1) : Calls Tryz.prog 53 #[.int .i64 p] w fun e w' => e = .returned (.int .i64 (1 - p)) ∧ Grow w w' := by
  have : p = 0 ∨ p = 1 := by omega
  rcases this with rfl | rfl
  · go_enter Tryz.func53, Tryz.ntmps53
    go_wp2_with fail
    go_ret
    exact ⟨rfl, grI⟩
  · go_enter Tryz.func53, Tryz.ntmps53
    go_wp2_with fail
    go_ret
    exact ⟨rfl, grI⟩
theorem Right.active {S : St} (h : Right S) : 0 ≤ S.num 19 ∧ S.num 19 ≤ 1 := by
  have h1 := ((rangesB_iff S).1 h.ranges).2.2
  unfold okTo at h1
  have h2 := List.all_eq_true.1 h1 1 (by decide)
  unfold inB at h2
  have e1 : gt (numsL S.num 18 7) 1 = S.num 19 := rfl
  have e2 : gt gmBounds (1 * 2) = 0 := rfl
  have e3 : gt gmBounds (1 * 2 + 1) = 1 := rfl
  rw [e1, e2, e3] at h2
  simpa using h2
end Go.Proofs.YtgobdndjemicjaaGreatDoor
