/-
  Whether an object is a creature, how strong it is, what is left of it, which words it has: of a right state.
  Who attacks, who blocks, how strong.
  Blockers, power, what is needed.
  Rows of hits in memory.
-/
import Derived.Test.YtnjdkkgkaafdbaaGreatDoorMEval
import Derived.Test.YtnjdkkgkaafdbaaGreatDoorMMade
import Derived.Test.YtnjdkkgkaafdbaaGreatDoorMRanges
namespace Go.Proofs.YtnjdkkgkaafdbaaGreatDoor
open Go Go.RowKit

/-- A right state in memory. -/
structure RS (S : St) (V : SV) (w : World) : Prop where
  rep : RepSt w V S
  right : Right S
  small : Small S
  glob : Glob w
theorem RS.grow {S : St} {V : SV} {w w' : World} (h : RS S V w) (g : Grow w w') : RS S V w' := ⟨h.rep.grow g, h.right, h.small, h.glob.grow g⟩
theorem RS.check {S : St} {V : SV} {w : World} (h : RS S V w) : Calls Tryz.prog 32 #[.agg (stA V S.num)] w fun e w' => e = .returned .nilIface ∧ Grow w w' := by
  refine (check_any S V w h.rep h.small h.glob).mono ?_
  rintro e w' ⟨rfl, g⟩
  exact ⟨by rw [(checkN_zero S).2 h.right]; rfl, g⟩
set_option maxRecDepth 100000 in
theorem is_any (S : St) (V : SV) (w : World) (h : RS S V w) (id : Int) :
    Calls Tryz.prog 40 #[.agg (stA V S.num), .int .i64 id] w fun e w' => e = .returned (.bool (creatureB S id)) ∧ Grow w w' := by
  have HH := Lib.hid h
  clear h
  go_enter Tryz.func40, Tryz.ntmps40
  go_wp2_with (first | (go_at_call 32; refine ((HH.out.grow grI).check).mono ?_; rintro e w' ⟨rfl, nx, rfl⟩) | (go_at_call 82; refine (creature_any S V _ (HH.out.grow grI).rep HH.out.right id).mono ?_; rintro e w' ⟨rfl, nx, rfl⟩))
  go_ret
  exact ⟨rfl, grI⟩
/-- What Of answers of a right state. -/
def ofV (S : St) (id : Int) : Value := if creatureB S id = true then .tuple #[.agg (cellsOf (shapeN S id.toNat)), .nilIface] else .tuple #[.agg (cellsOf [0, 0, 0]), errV 4]
@[go_sem] theorem run_build_shape0 (w : World) : (bdRow 100 #[]).run Tryz.prog w = .ok (.value (.agg (cellsOf [0, 0, 0]))) w := by kernel_rfl
set_option maxRecDepth 100000 in
theorem of_any (S : St) (V : SV) (w : World) (h : RS S V w) (id : Int) :
    Calls Tryz.prog 66 #[.agg (stA V S.num), .int .i64 id] w fun e w' => e = .returned (ofV S id) ∧ Grow w w' := by
  have HH := Lib.hid h
  clear h
  have HO : Hid (ofV S id = if creatureB S id = true then .tuple #[.agg (cellsOf (shapeN S id.toNat)), .nilIface] else .tuple #[.agg (cellsOf [0, 0, 0]), errV 4]) := rfl
  cases hc : creatureB S id with
  | true =>
    obtain ⟨c1, c2, _, _⟩ := creatureB_in hc
    obtain ⟨d, rfl⟩ := Int.eq_ofNat_of_zero_le c1
    have hd : d < S.objs.length := by omega
    rw [hc, Int.toNat_natCast] at HO
    have hsl : (shapeN S d).length = 3 := rfl
    have HCR : Hid (∀ W, Grow w W → Calls Tryz.prog 82 #[.agg (stA V S.num), .int .i64 (d : Int)] W fun e w' => e = .returned (.bool true) ∧ Grow W w') := fun W g => by
      have := creature_any S V W (HH.out.grow g).rep HH.out.right d
      rw [hc] at this; exact this
    clear hc c1 c2
    go_enter Tryz.func66, Tryz.ntmps66
    go_wp2_with (first | (go_at_call 32; refine ((HH.out.grow grI).check).mono ?_; rintro e w' ⟨rfl, nx, rfl⟩) | (go_at_call 82; refine (HCR.out _ grI).mono ?_; rintro e w' ⟨rfl, nx, rfl⟩) | (go_at_call 101; refine (eval_any S V _ (HH.out.grow grI).rep HH.out.right HH.out.small d hd).mono ?_; rintro e w' ⟨rfl, nx, rfl⟩))
    refine bodyPost_ret (results2_Shape rfl _ _ _ rfl ?_) rfl ?_
    · go_simp
    · exact ⟨by rw [HO.out]; go_simp, grI⟩
  | false =>
    rw [hc] at HO
    have HCR : Hid (∀ W, Grow w W → Calls Tryz.prog 82 #[.agg (stA V S.num), .int .i64 id] W fun e w' => e = .returned (.bool false) ∧ Grow W w') := fun W g => by
      have := creature_any S V W (HH.out.grow g).rep HH.out.right id
      rw [hc] at this; exact this
    clear hc
    go_enter Tryz.func66, Tryz.ntmps66
    go_wp2_with (first | (go_at_call 32; refine ((HH.out.grow grI).check).mono ?_; rintro e w' ⟨rfl, nx, rfl⟩) | (go_at_call 82; refine (HCR.out _ grI).mono ?_; rintro e w' ⟨rfl, nx, rfl⟩))
    refine bodyPost_ret (results2_Shape rfl _ _ _ rfl ?_) rfl ?_
    · go_simp
    · exact ⟨by rw [HO.out]; go_simp, grI⟩
/-- Has a creature of a right state a word? -/
def hasB (S : St) (id word : Int) : Bool := creatureB S id && (bits .and .i64 (gt (shapeN S id.toNat) 2) word == word)
set_option maxRecDepth 100000 in
theorem has_word (S : St) (V : SV) (w : World) (h : RS S V w) (id word : Int) (h1 : 1 ≤ word) (h2 : word ≤ 255) :
    Calls Tryz.prog 31 #[.agg (stA V S.num), .int .i64 id, .int .i64 word] w fun e w' => e = .returned (.bool (hasB S id word)) ∧ Grow w w' := by
  have HH := Lib.hid h
  clear h
  have hsl : (shapeN S id.toNat).length = 3 := rfl
  have HB : Hid (hasB S id word = (creatureB S id && (bits .and .i64 (gt (shapeN S id.toNat) 2) word == word))) := rfl
  cases hc : creatureB S id with
  | true =>
    have HO : Hid (∀ W, Grow w W → Calls Tryz.prog 66 #[.agg (stA V S.num), .int .i64 id] W fun e w' => e = .returned (.tuple #[.agg (cellsOf (shapeN S id.toNat)), .nilIface]) ∧ Grow W w') := fun W g => by
      have := of_any S V W (HH.out.grow g) id
      rw [ofV, if_pos hc] at this; exact this
    rw [hc] at HB
    clear hc
    go_enter Tryz.func31, Tryz.ntmps31
    go_wp2_with (go_at_call 66; refine (HO.out _ grI).mono ?_; rintro e w' ⟨rfl, nx, rfl⟩)
    go_ret
    exact ⟨ret_bool (by rw [HB.out]; simp), grI⟩
  | false =>
    have HO : Hid (∀ W, Grow w W → Calls Tryz.prog 66 #[.agg (stA V S.num), .int .i64 id] W fun e w' => e = .returned (.tuple #[.agg (cellsOf [0, 0, 0]), .iface 93 (.int .i64 4)]) ∧ Grow W w') := fun W g => by
      have := of_any S V W (HH.out.grow g) id
      rw [ofV, if_neg (by rw [hc]; decide)] at this; exact this
    rw [hc] at HB
    clear hc
    go_enter Tryz.func31, Tryz.ntmps31
    go_wp2_with (go_at_call 66; refine (HO.out _ grI).mono ?_; rintro e w' ⟨rfl, nx, rfl⟩)
    go_ret
    exact ⟨ret_bool (by rw [HB.out]; simp), grI⟩
/-- What Left answers of a right state. -/
def leftV (S : St) (id : Int) : Value := if creatureB S id = true then .tuple #[.int .i64 (wrap64 (gt (shapeN S id.toNat) 1 - gt (rowAt S.objs id.toNat) 6)), .nilIface] else .tuple #[.int .i64 0, errV 4]
set_option maxRecDepth 100000 in
theorem sleft_any (S : St) (V : SV) (w : World) (h : RS S V w) (id : Int) :
    Calls Tryz.prog 110 #[.agg (stA V S.num), .int .i64 id] w fun e w' => e = .returned (leftV S id) ∧ Grow w w' := by
  have HH := Lib.hid h
  have hN := h.rep.objs.len
  clear h
  have hsl : (shapeN S id.toNat).length = 3 := rfl
  cases hc : creatureB S id with
  | true =>
    have HO : Hid (∀ W, Grow w W → Calls Tryz.prog 66 #[.agg (stA V S.num), .int .i64 id] W fun e w' => e = .returned (.tuple #[.agg (cellsOf (shapeN S id.toNat)), .nilIface]) ∧ Grow W w') := fun W g => by
      have := of_any S V W (HH.out.grow g) id
      rw [ofV, if_pos hc] at this; exact this
    have HV : Hid (leftV S id = .tuple #[.int .i64 (wrap64 (gt (shapeN S id.toNat) 1 - gt (rowAt S.objs id.toNat) 6)), .nilIface]) := by rw [Hid, leftV, if_pos hc]
    obtain ⟨c1, c2, _, _⟩ := creatureB_in hc
    obtain ⟨d, rfl⟩ := Int.eq_ofNat_of_zero_le c1
    have hd : d < S.objs.length := by omega
    obtain ⟨hob, how, hosz, hosub, hocell⟩ := HH.out.rep.objs.at (by omega) d hd
    have hoc := hocell 6 (by omega)
    rw [Int.toNat_natCast] at HV HO hsl
    clear hc c1 hocell hosub hosz
    generalize gt (rowAt S.objs d) 6 = dmg at *
    go_enter Tryz.func110, Tryz.ntmps110
    go_wp2_with (go_at_call 66; refine (HO.out _ grI).mono ?_; rintro e w' ⟨rfl, nx, rfl⟩)
    refine wp_region_grow (by kernel_rfl) (by kernel_rfl) ?_; (repeat (go_big_quiet_step ( fail ))); refine wpQuiet_nil ?_; rintro _ ⟨nx, rfl⟩
    go_wp2_with fail
    go_ret2
    exact ⟨by rw [HV.out]; rfl, grI⟩
  | false =>
    have HO : Hid (∀ W, Grow w W → Calls Tryz.prog 66 #[.agg (stA V S.num), .int .i64 id] W fun e w' => e = .returned (.tuple #[.agg (cellsOf [0, 0, 0]), .iface 93 (.int .i64 4)]) ∧ Grow W w') := fun W g => by
      have := of_any S V W (HH.out.grow g) id
      rw [ofV, if_neg (by rw [hc]; decide)] at this; exact this
    have HV : Hid (leftV S id = .tuple #[.int .i64 0, .iface 93 (.int .i64 4)]) := by rw [Hid, leftV, if_neg (by rw [hc]; decide)]; rfl
    clear hc
    go_enter Tryz.func110, Tryz.ntmps110
    go_wp2_with (go_at_call 66; refine (HO.out _ grI).mono ?_; rintro e w' ⟨rfl, nx, rfl⟩)
    go_ret2
    exact ⟨by rw [HV.out]; rfl, grI⟩
end Go.Proofs.YtnjdkkgkaafdbaaGreatDoor
namespace Go.Proofs.YtnjdkkgkaafdbaaGreatDoor
open Go Go.RowKit

set_option maxRecDepth 100000 in
theorem field_any (S : St) (V : SV) (w : World) (R : RepSt w V S) (d f : Nat) (hd : d < S.objs.length) (hf : f < 18) :
    Calls Tryz.prog 41 #[.agg (stA V S.num), .int .i64 (d : Int), .int .i64 (f : Int)] w fun e w' => e = .returned (.int .i64 (gt (rowAt S.objs d) f)) ∧ Grow w w' := by
  have hN := R.objs.len
  obtain ⟨hob, how, hosz, hosub, hocell⟩ := R.objs.at (by omega) d hd
  have hoc := hocell f hf
  have hd' : (d : Int) < S.objs.length := by omega
  have hf' : (f : Int) < 18 := by omega
  clear hocell hosub hosz R
  generalize gt (rowAt S.objs d) f = v at *
  go_enter Tryz.func41, Tryz.ntmps41
  go_wp2_with fail
  go_ret
  exact ⟨rfl, grI⟩
/-- Does an object of a right state attack? -/
def attacksB (S : St) (id : Int) : Bool := creatureB S id && (gt (rowAt S.objs id.toNat) 11 == 1)
set_option maxRecDepth 100000 in
theorem attacks_any (S : St) (V : SV) (w : World) (h : RS S V w) (id : Int) :
    Calls Tryz.prog 39 #[.agg (stA V S.num), .int .i64 id] w fun e w' => e = .returned (.bool (attacksB S id)) ∧ Grow w w' := by
  have HH := Lib.hid h
  clear h
  have HB : Hid (attacksB S id = (creatureB S id && (gt (rowAt S.objs id.toNat) 11 == 1))) := rfl
  cases hc : creatureB S id with
  | true =>
    have HI : Hid (∀ W, Grow w W → Calls Tryz.prog 40 #[.agg (stA V S.num), .int .i64 id] W fun e w' => e = .returned (.bool true) ∧ Grow W w') := fun W g => by
      have := is_any S V W (HH.out.grow g) id
      rw [hc] at this; exact this
    obtain ⟨c1, c2, _, _⟩ := creatureB_in hc
    obtain ⟨d, rfl⟩ := Int.eq_ofNat_of_zero_le c1
    have hd : d < S.objs.length := by omega
    rw [hc, Int.toNat_natCast] at HB
    clear hc c1
    go_enter Tryz.func39, Tryz.ntmps39
    go_wp2_with (first | (go_at_call 40; refine (HI.out _ grI).mono ?_; rintro e w' ⟨rfl, nx, rfl⟩) | (go_at_call 41; refine (field_any S V _ (HH.out.grow grI).rep d 11 hd (by decide)).mono ?_; rintro e w' ⟨rfl, nx, rfl⟩))
    go_ret
    exact ⟨ret_bool (by rw [HB.out]; simp), grI⟩
  | false =>
    have HI : Hid (∀ W, Grow w W → Calls Tryz.prog 40 #[.agg (stA V S.num), .int .i64 id] W fun e w' => e = .returned (.bool false) ∧ Grow W w') := fun W g => by
      have := is_any S V W (HH.out.grow g) id
      rw [hc] at this; exact this
    rw [hc] at HB
    clear hc
    go_enter Tryz.func39, Tryz.ntmps39
    go_wp2_with (go_at_call 40; refine (HI.out _ grI).mono ?_; rintro e w' ⟨rfl, nx, rfl⟩)
    go_ret
    exact ⟨ret_bool (by rw [HB.out]; simp), grI⟩
def attTo (S : St) (k : Nat) : List Int := ((S.list 8).take k).filter (attacksB S)
/-- The attackers of a right state. -/
def attackersN (S : St) : List Int := (S.list 8).filter (attacksB S)
theorem attTo_succ (S : St) (k : Nat) (h : k < (S.list 8).length) : attTo S (k + 1) = attTo S k ++ (if attacksB S (gt (S.list 8) k) = true then [gt (S.list 8) k] else []) := by
  unfold attTo
  rw [take_snoc _ _ h, List.filter_append]
  congr 1
  by_cases h : attacksB S (gt (S.list 8) k) = true
  · rw [if_pos h, List.filter_cons_of_pos h]; rfl
  · rw [if_neg h, List.filter_cons_of_neg h]; rfl
set_option maxRecDepth 100000 in
set_option maxHeartbeats 1000000 in
theorem attackers_any (S : St) (V : SV) (w : World) (h : RS S V w) :
    Calls Tryz.prog 11 #[.agg (stA V S.num)] w fun e w' => ∃ s : Sl, e = .returned s.val ∧ Ints w' s (attackersN S) ∧ Grow w w' := by
  have hL := (h.rep.list 8 (by decide)).len
  have hSL := h.small.list 8 (by decide)
  have HH := Lib.hid h
  clear h
  go_enter Tryz.func11, Tryz.ntmps11
  go_wp2_with fail
  go_loopw [3, 10] (fun v i wr => ∃ (k : Nat) (s : Sl), k ≤ (S.list 8).length ∧ i = .int .i64 k ∧ v = s.val ∧ Made (w.alloc (.cells (stA V S.num) 29)).heap.size wr s 1 ((attTo S k).map I) ∧ s.n ≤ k ∧ Grow (w.alloc (.cells (stA V S.num) 29)) wr) (fun _ i _ => (S.list 8).length - (intOf i).toNat)
  case atStart => exact ⟨0, .nil, by omega, rfl, rfl, Made.nil _ _ _, by simp [Sl.n], grI⟩
  case round =>
    obtain ⟨k, s, hk, rfl, rfl, hM, hsn, hG⟩ := hrel
    obtain ⟨x, rfl⟩ := hG
    have HM := Lib.hid hM
    clear hM
    by_cases hlt : k < (S.list 8).length
    · obtain ⟨hlb, hlc⟩ := (HH.out.rep.list 8 (by decide)).at k hlt
      have HS := Lib.hid (attTo_succ S k hlt)
      generalize gt (S.list 8) k = id at *
      cases hb : attacksB S id with
      | false =>
        have HA : Hid (∀ W, Grow w W → Calls Tryz.prog 39 #[.agg (stA V S.num), .int .i64 id] W fun e w' => e = .returned (.bool false) ∧ Grow W w') := fun W g => by
          have := attacks_any S V W (HH.out.grow g) id
          rw [hb] at this; exact this
        have HS2 : Hid (attTo S (k + 1) = attTo S k) := by rw [Hid, HS.out, hb]; simp
        clear hb
        go_wp2_with (go_at_call 39; refine (HA.out _ grI).mono ?_; rintro e w' ⟨rfl, nx, rfl⟩)
        go_roundw
        case rel => exact ⟨k + 1, s, by omega, by go_num, rfl, by rw [HS2.out]; exact HM.out.grow grI, by omega, grI⟩
        case measure => simp [intOf]; omega
      | true =>
        have HA : Hid (∀ W, Grow w W → Calls Tryz.prog 39 #[.agg (stA V S.num), .int .i64 id] W fun e w' => e = .returned (.bool true) ∧ Grow W w') := fun W g => by
          have := attacks_any S V W (HH.out.grow g) id
          rw [hb] at this; exact this
        have HS2 : Hid (attTo S (k + 1) = attTo S k ++ [id]) := by rw [Hid, HS.out, hb]; simp
        clear hb
        go_wp2_with (first | (go_at_call 39; refine (HA.out _ grI).mono ?_; rintro e w' ⟨rfl, nx, rfl⟩) | (at_builtin; refine wpList_made rfl _ _ 23 rfl 3 Tryz.t3 (.int .i64 0) 1 8 Tryz.underlying23 (by kernel_rfl) (by kernel_rfl) (by kernel_rfl) (by kernel_rfl) (by omega) rfl (w.alloc (.cells (stA V S.num) 29)) s (.mk _ 0 1 1) ((attTo S k).map I) [I id] rfl rfl (HM.out.grow grI) grI (one_int _ _ _ (by go_simp)) (flat_one _) (flat_one [id]) (by simp only [Sl.n] at hsn ⊢; omega) ?_; intro s2 y c1 _ c3 _; have C := Lib.hid (And.intro c1 c3); clear c1 c3))
        go_roundw
        case rel => exact ⟨k + 1, s2, by omega, by go_num, rfl, by rw [HS2.out, List.map_append]; exact C.out.1.grow grI, by rw [C.out.2]; simp only [Sl.n] at hsn ⊢; omega, grI⟩
        case measure => simp [intOf]; omega
    · go_wp2_with fail
      go_ret
      have hkl : k = (S.list 8).length := by omega
      have hM := HM.out.cells
      rw [hkl, attTo, List.take_length] at hM
      exact ⟨s, rfl, (hM.grow grI).ints, grI⟩
end Go.Proofs.YtnjdkkgkaafdbaaGreatDoor
namespace Go.Proofs.YtnjdkkgkaafdbaaGreatDoor
open Go Go.RowKit

/-- Does an object of a right state block an attacker? -/
def blocksB (S : St) (a id : Int) : Bool := creatureB S id && (gt (rowAt S.objs id.toNat) 12 == a + 1)
def bloTo (S : St) (a : Int) (k : Nat) : List Int := ((S.list 8).take k).filter (blocksB S a)
/-- The blockers of an attacker. -/
def blockersN (S : St) (a : Int) : List Int := (S.list 8).filter (blocksB S a)
theorem bloTo_succ (S : St) (a : Int) (k : Nat) (h : k < (S.list 8).length) : bloTo S a (k + 1) = bloTo S a k ++ (if blocksB S a (gt (S.list 8) k) = true then [gt (S.list 8) k] else []) := by
  unfold bloTo
  rw [take_snoc _ _ h, List.filter_append]
  congr 1
  by_cases h : blocksB S a (gt (S.list 8) k) = true
  · rw [if_pos h, List.filter_cons_of_pos h]; rfl
  · rw [if_neg h, List.filter_cons_of_neg h]; rfl
set_option maxRecDepth 100000 in
set_option maxHeartbeats 2000000 in
theorem blockers_any (S : St) (V : SV) (w : World) (h : RS S V w) (a : Nat) (ha : a ≤ 1048576) :
    Calls Tryz.prog 73 #[.agg (stA V S.num), .int .i64 (a : Int)] w fun e w' => ∃ s : Sl, e = .returned s.val ∧ Ints w' s (blockersN S a) ∧ Grow w w' := by
  have hL := (h.rep.list 8 (by decide)).len
  have hSL := h.small.list 8 (by decide)
  have hSO := h.small.objs
  have HH := Lib.hid h
  clear h
  go_enter Tryz.func73, Tryz.ntmps73
  go_wp2_with fail
  go_loopw [5, 12] (fun v i wr => ∃ (k : Nat) (s : Sl), k ≤ (S.list 8).length ∧ i = .int .i64 k ∧ v = s.val ∧ Made (w.alloc (.cells (stA V S.num) 29)).heap.size wr s 1 ((bloTo S a k).map I) ∧ s.n ≤ k ∧ Grow (w.alloc (.cells (stA V S.num) 29)) wr) (fun _ i _ => (S.list 8).length - (intOf i).toNat)
  case atStart => exact ⟨0, .nil, by omega, rfl, rfl, Made.nil _ _ _, by simp [Sl.n], grI⟩
  case round =>
    obtain ⟨k, s, hk, rfl, rfl, hM, hsn, hG⟩ := hrel
    obtain ⟨x, rfl⟩ := hG
    have HM := Lib.hid hM
    clear hM
    by_cases hlt : k < (S.list 8).length
    · obtain ⟨hlb, hlc⟩ := (HH.out.rep.list 8 (by decide)).at k hlt
      have HS := Lib.hid (bloTo_succ S a k hlt)
      generalize gt (S.list 8) k = id at *
      cases hc : creatureB S id with
      | false =>
        have HI : Hid (∀ W, Grow w W → Calls Tryz.prog 40 #[.agg (stA V S.num), .int .i64 id] W fun e w' => e = .returned (.bool false) ∧ Grow W w') := fun W g => by
          have := is_any S V W (HH.out.grow g) id
          rw [hc] at this; exact this
        have HS2 : Hid (bloTo S a (k + 1) = bloTo S a k) := by rw [Hid, HS.out, blocksB, hc]; simp
        clear hc
        go_wp2_with (go_at_call 40; refine (HI.out _ grI).mono ?_; rintro e w' ⟨rfl, nx, rfl⟩)
        go_roundw
        case rel => exact ⟨k + 1, s, by omega, by go_num, rfl, by rw [HS2.out]; exact HM.out.grow grI, by omega, grI⟩
        case measure => simp [intOf]; omega
      | true =>
        have HI : Hid (∀ W, Grow w W → Calls Tryz.prog 40 #[.agg (stA V S.num), .int .i64 id] W fun e w' => e = .returned (.bool true) ∧ Grow W w') := fun W g => by
          have := is_any S V W (HH.out.grow g) id
          rw [hc] at this; exact this
        obtain ⟨c1, c2, _, _⟩ := creatureB_in hc
        obtain ⟨d, rfl⟩ := Int.eq_ofNat_of_zero_le c1
        have hd : d < S.objs.length := by omega
        have HF : Hid (∀ W, Grow w W → Calls Tryz.prog 41 #[.agg (stA V S.num), .int .i64 (d : Int), .int .i64 12] W fun e w' => e = .returned (.int .i64 (gt (rowAt S.objs d) 12)) ∧ Grow W w') := fun W g => field_any S V W (HH.out.grow g).rep d 12 hd (by decide)
        have HS3 : Hid (blocksB S a d = (gt (rowAt S.objs d) 12 == (a : Int) + 1)) := by rw [Hid, blocksB, hc, Int.toNat_natCast]; rfl
        clear hc c1
        generalize gt (rowAt S.objs d) 12 = f at *
        cases hb : (f == (a : Int) + 1) with
        | false =>
          have HS2 : Hid (bloTo S a (k + 1) = bloTo S a k) := by rw [Hid, HS.out, HS3.out, hb]; simp
          go_wp2_with (first | (go_at_call 40; refine (HI.out _ grI).mono ?_; rintro e w' ⟨rfl, nx, rfl⟩) | (go_at_call 41; refine (HF.out _ grI).mono ?_; rintro e w' ⟨rfl, nx, rfl⟩))
          go_roundw
          case rel => exact ⟨k + 1, s, by omega, by go_num, rfl, by rw [HS2.out]; exact HM.out.grow grI, by omega, grI⟩
          case measure => simp [intOf]; omega
        | true =>
          have HS2 : Hid (bloTo S a (k + 1) = bloTo S a k ++ [(d : Int)]) := by rw [Hid, HS.out, HS3.out, hb]; simp
          go_wp2_with (first | (go_at_call 40; refine (HI.out _ grI).mono ?_; rintro e w' ⟨rfl, nx, rfl⟩) | (go_at_call 41; refine (HF.out _ grI).mono ?_; rintro e w' ⟨rfl, nx, rfl⟩) | (at_builtin; refine wpList_made rfl _ _ 23 rfl 3 Tryz.t3 (.int .i64 0) 1 8 Tryz.underlying23 (by kernel_rfl) (by kernel_rfl) (by kernel_rfl) (by kernel_rfl) (by omega) rfl (w.alloc (.cells (stA V S.num) 29)) s (.mk _ 0 1 1) ((bloTo S a k).map I) [I (d : Int)] rfl rfl (HM.out.grow grI) grI (one_int _ _ _ (by go_simp)) (flat_one _) (flat_one [(d : Int)]) (by simp only [Sl.n] at hsn ⊢; omega) ?_; intro s2 y c1 _ c3 _; have C := Lib.hid (And.intro c1 c3); clear c1 c3))
          go_roundw
          case rel => exact ⟨k + 1, s2, by omega, by go_num, rfl, by rw [HS2.out, List.map_append]; exact C.out.1.grow grI, by rw [C.out.2]; simp only [Sl.n] at hsn ⊢; omega, grI⟩
          case measure => simp [intOf]; omega
    · go_wp2_with fail
      go_ret
      have hkl : k = (S.list 8).length := by omega
      have hM := HM.out.cells
      rw [hkl, bloTo, List.take_length] at hM
      exact ⟨s, rfl, (hM.grow grI).ints, grI⟩
/-- A creature's power, 0 at least. -/
def powerN (S : St) (id : Int) : Int := if creatureB S id = true then max (gt (shapeN S id.toNat) 0) 0 else 0
set_option maxRecDepth 100000 in
theorem power_any (S : St) (V : SV) (w : World) (h : RS S V w) (id : Int) :
    Calls Tryz.prog 72 #[.agg (stA V S.num), .int .i64 id] w fun e w' => e = .returned (.int .i64 (powerN S id)) ∧ Grow w w' := by
  have HH := Lib.hid h
  clear h
  have hsl : (shapeN S id.toNat).length = 3 := rfl
  cases hc : creatureB S id with
  | true =>
    have HO : Hid (∀ W, Grow w W → Calls Tryz.prog 66 #[.agg (stA V S.num), .int .i64 id] W fun e w' => e = .returned (.tuple #[.agg (cellsOf (shapeN S id.toNat)), .nilIface]) ∧ Grow W w') := fun W g => by
      have := of_any S V W (HH.out.grow g) id
      rw [ofV, if_pos hc] at this; exact this
    have HP : Hid (powerN S id = max (gt (shapeN S id.toNat) 0) 0) := by rw [Hid, powerN, if_pos hc]
    clear hc
    go_enter Tryz.func72, Tryz.ntmps72
    go_wp2_with (go_at_call 66; refine (HO.out _ grI).mono ?_; rintro e w' ⟨rfl, nx, rfl⟩)
    go_ret
    exact ⟨ret_int HP.out.symm, grI⟩
  | false =>
    have HO : Hid (∀ W, Grow w W → Calls Tryz.prog 66 #[.agg (stA V S.num), .int .i64 id] W fun e w' => e = .returned (.tuple #[.agg (cellsOf [0, 0, 0]), .iface 93 (.int .i64 4)]) ∧ Grow W w') := fun W g => by
      have := of_any S V W (HH.out.grow g) id
      rw [ofV, if_neg (by rw [hc]; decide)] at this; exact this
    have HP : Hid (powerN S id = 0) := by rw [Hid, powerN, if_neg (by rw [hc]; decide)]
    clear hc
    go_enter Tryz.func72, Tryz.ntmps72
    go_wp2_with (go_at_call 66; refine (HO.out _ grI).mono ?_; rintro e w' ⟨rfl, nx, rfl⟩)
    go_ret
    exact ⟨ret_int HP.out.symm, grI⟩
/-- How much an attacker needs for a blocker. -/
def needsN (S : St) (a b : Int) : Int := if hasB S a 16 = true then 1 else if creatureB S b = true then max (wrap64 (gt (shapeN S b.toNat) 1 - gt (rowAt S.objs b.toNat) 6)) 0 else 0
set_option maxRecDepth 100000 in
theorem needs_any (S : St) (V : SV) (w : World) (h : RS S V w) (a b : Int) :
    Calls Tryz.prog 74 #[.agg (stA V S.num), .int .i64 a, .int .i64 b] w fun e w' => e = .returned (.int .i64 (needsN S a b)) ∧ Grow w w' := by
  have HH := Lib.hid h
  clear h
  cases hw : hasB S a 16 with
  | true =>
    have HW : Hid (∀ W, Grow w W → Calls Tryz.prog 31 #[.agg (stA V S.num), .int .i64 a, .int .i64 16] W fun e w' => e = .returned (.bool true) ∧ Grow W w') := fun W g => by
      have := has_word S V W (HH.out.grow g) a 16 (by decide) (by decide)
      rw [hw] at this; exact this
    have HP : Hid (needsN S a b = 1) := by rw [Hid, needsN, if_pos hw]
    clear hw
    go_enter Tryz.func74, Tryz.ntmps74
    go_wp2_with (go_at_call 31; refine (HW.out _ grI).mono ?_; rintro e w' ⟨rfl, nx, rfl⟩)
    go_ret
    exact ⟨ret_int HP.out.symm, grI⟩
  | false =>
    have HW : Hid (∀ W, Grow w W → Calls Tryz.prog 31 #[.agg (stA V S.num), .int .i64 a, .int .i64 16] W fun e w' => e = .returned (.bool false) ∧ Grow W w') := fun W g => by
      have := has_word S V W (HH.out.grow g) a 16 (by decide) (by decide)
      rw [hw] at this; exact this
    cases hc : creatureB S b with
    | true =>
      have HL : Hid (∀ W, Grow w W → Calls Tryz.prog 110 #[.agg (stA V S.num), .int .i64 b] W fun e w' => e = .returned (.tuple #[.int .i64 (wrap64 (gt (shapeN S b.toNat) 1 - gt (rowAt S.objs b.toNat) 6)), .nilIface]) ∧ Grow W w') := fun W g => by
        have := sleft_any S V W (HH.out.grow g) b
        rw [leftV, if_pos hc] at this; exact this
      have HP : Hid (needsN S a b = max (wrap64 (gt (shapeN S b.toNat) 1 - gt (rowAt S.objs b.toNat) 6)) 0) := by rw [Hid, needsN, if_neg (by rw [hw]; decide), if_pos hc]
      clear hw hc
      generalize wrap64 (gt (shapeN S b.toNat) 1 - gt (rowAt S.objs b.toNat) 6) = v at *
      go_enter Tryz.func74, Tryz.ntmps74
      go_wp2_with (first | (go_at_call 31; refine (HW.out _ grI).mono ?_; rintro e w' ⟨rfl, nx, rfl⟩) | (go_at_call 110; refine (HL.out _ grI).mono ?_; rintro e w' ⟨rfl, nx, rfl⟩))
      go_ret
      exact ⟨ret_int HP.out.symm, grI⟩
    | false =>
      have HL : Hid (∀ W, Grow w W → Calls Tryz.prog 110 #[.agg (stA V S.num), .int .i64 b] W fun e w' => e = .returned (.tuple #[.int .i64 0, .iface 93 (.int .i64 4)]) ∧ Grow W w') := fun W g => by
        have := sleft_any S V W (HH.out.grow g) b
        rw [leftV, if_neg (by rw [hc]; decide)] at this; exact this
      have HP : Hid (needsN S a b = 0) := by rw [Hid, needsN, if_neg (by rw [hw]; decide), if_neg (by rw [hc]; decide)]
      clear hw hc
      go_enter Tryz.func74, Tryz.ntmps74
      go_wp2_with (first | (go_at_call 31; refine (HW.out _ grI).mono ?_; rintro e w' ⟨rfl, nx, rfl⟩) | (go_at_call 110; refine (HL.out _ grI).mono ?_; rintro e w' ⟨rfl, nx, rfl⟩))
      go_ret
      exact ⟨ret_int HP.out.symm, grI⟩
theorem at_any (w : World) (b : Nat) (hb : b ≤ 1048576) : Calls Tryz.prog 75 #[.int .i64 (b : Int)] w fun e w' => e = .returned (.int .i64 ((b : Int) + 1)) ∧ Grow w w' := by
  have hne : ((b : Int) == 9223372036854775807) = false := by
    rw [beq_eq_false_iff_ne]; omega
  go_enter Tryz.func75, Tryz.ntmps75
  go_wp2_with fail
  go_ret
  exact ⟨rfl, grI⟩
theorem foe_any (w : World) (p : Int) (h0 : 0 ≤ p) (h1 : p ≤ 1) : Calls Tryz.prog 42 #[.int .i64 p] w fun e w' => e = .returned (.int .i64 (1 - p)) ∧ Grow w w' := by
  have : p = 0 ∨ p = 1 := by omega
  rcases this with rfl | rfl
  · go_enter Tryz.func42, Tryz.ntmps42
    go_wp2_with fail
    go_ret
    exact ⟨rfl, grI⟩
  · go_enter Tryz.func42, Tryz.ntmps42
    go_wp2_with fail
    go_ret
    exact ⟨rfl, grI⟩
theorem Right.active {S : St} (h : Right S) : 0 ≤ S.num 19 ∧ S.num 19 ≤ 1 := by
  have h1 := ((rangesB_iff S).1 h.ranges).2.2
  unfold okTo at h1
  have h2 := List.all_eq_true.1 h1 1 (by decide)
  unfold inB at h2
  have e1 : gt (numsL S.num 18 7) 1 = S.num 19 := rfl
  have e2 : gt gmBounds (1 * 2) = 0 := rfl
  have e3 : gt gmBounds (1 * 2 + 1) = 1 := rfl
  rw [e1, e2, e3] at h2
  simpa using h2
end Go.Proofs.YtnjdkkgkaafdbaaGreatDoor
namespace Go.Proofs.YtnjdkkgkaafdbaaGreatDoor
open Go Go.RowKit

@[go_sem ↓] theorem load_Hit (ρ : Operand → Value) (dst : Option Tmp) (x : Operand) (ty : TypeId) (pos : String) (after : Array Edge) (guard : Option (Nat × Bool)) :
    execOp ρ { dst, op := .load 40 x, type := ty, pos, after, guard } = ldRow 40 (ρ x) := rfl
@[go_sem ↓] theorem store_Hit (ρ : Operand → Value) (dst : Option Tmp) (x y : Operand) (ty : TypeId) (pos : String) (after : Array Edge) (guard : Option (Nat × Bool)) :
    execOp ρ { dst, op := .store 40 x y, type := ty, pos, after, guard } = stRow 40 (ρ x) (ρ y) := rfl
@[go_sem] theorem run_load_Hit (w : World) (b o : Nat) (h : o + 3 ≤ (w.blk b).size) : (ldRow 40 (.pointer (some ⟨b, o, none⟩))).run Tryz.prog w = .ok (.value (.agg (sub (w.blk b) o 3))) w :=
  run_ldSub w b o 40 3 (by kernel_rfl) (by kernel_rfl) h (by omega)
@[go_sem] theorem run_store_Hit (w : World) (b : Nat) (cs : Array Value) (h : (w.blk b).size = 3) (hc : cs.size = 3) (h1 : oneCells cs = true) (hf : w.free b = true) : (stRow 40 (.pointer (some ⟨b, 0, none⟩)) (.agg cs)).run Tryz.prog w = .ok .skip (w.setRow b cs) :=
  run_stRow w b 40 3 _ (by kernel_rfl) h hc (by omega) hf h1
@[go_sem ↓] theorem build_hit (ρ : Operand → Value) (dst : Option Tmp) (parts : Array (Nat × Operand)) (ty : TypeId) (pos : String) (after : Array Edge) (guard : Option (Nat × Bool)) :
    execOp ρ { dst, op := .build 40 parts, type := ty, pos, after, guard } = bdRow 40 (parts.map fun (i, x) => (i, ρ x)) := rfl
@[go_sem] theorem run_build_hit (w : World) (a b c : Int) : (bdRow 40 #[(0, .int .i64 a), (1, .int .i64 b), (2, .int .i64 c)]).run Tryz.prog w = .ok (.value (.agg (cellsOf [a, b, c]))) w := by kernel_rfl
@[go_sem ↓] theorem bslice_hits (ρ : Operand → Value) (dst : Option Tmp) (n : Nat) (parts : Array (Nat × Operand)) (ty : TypeId) (pos : String) (after : Array Edge) (guard : Option (Nat × Bool)) :
    execOp ρ { dst, op := .buildSlice 32 n parts, type := ty, pos, after, guard } = bsRow 32 n (parts.map fun (i, x) => (i, ρ x)) := rfl
@[go_sem] theorem run_bs_hit (w : World) (a b c : Int) : (bsRow 32 1 #[(0, .agg (cellsOf [a, b, c]))]).run Tryz.prog w = .ok (.value (.slice (some ⟨w.heap.size, 0, none⟩) 1 1)) (w.alloc (.cells (cellsOf [a, b, c]) 40)) := by kernel_rfl
@[go_sem] theorem indexAt_hits (w : World) (s : Sl) (q : IntKind) (i : Int) (h0 : 0 ≤ i) (h1 : i < s.n) : (Instr.indexAt 32 s.val (.int q i)).run Tryz.prog w = .ok (.pointer (some ⟨s.b, s.o + i.toNat * 3, none⟩)) w :=
  run_indexAt_sl w Tryz.underlying32 (fun w => (by kernel_rfl : (sizeOf 40).run Tryz.prog w = .ok 3 w)) s q i h0 h1
theorem one_hit (w : World) (b : Nat) (x y z : Int) (hf : w.free b = true) (h : w.blk b = cellsOf [x, y, z]) : Cells w (.mk b 0 1 1) 3 (flat [[x, y, z]]) := by
  refine ⟨rfl, Nat.le_refl _, fun j u hu => ?_⟩
  simp only [Sl.b, Sl.o, Nat.zero_add]
  rw [cell_of_blk hf h]
  have e : flat [[x, y, z]] = (cellsOf [x, y, z]).toList := rfl
  rw [e, Array.getElem?_toList] at hu
  exact hu
theorem Cells.rows3 {w : World} {s : Sl} {l : List (List Int)} (h : Cells w s 3 (flat l)) (hw : ∀ r, r ∈ l → r.length = 3) : Rows' w s 3 l :=
  h.rows (by decide) (fun i hi => hw _ (rowAt_in l i hi))
theorem flat_ones (l : List (List Int)) : ∀ u ∈ flat l, u.oneCell' = true := by
  intro u hu
  obtain ⟨x, _, rfl⟩ := List.mem_map.1 hu
  rfl
end Go.Proofs.YtnjdkkgkaafdbaaGreatDoor
