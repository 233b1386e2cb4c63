/-
  The walks of Ints and States: two lists, two states are the same.
  The walks of an emitter's Events and Pending, of Num and Events.
  The walk of Is: an emitter and the document's tell the same.
-/
import Derived.Test.YtnjdkkgkaafdbaaGreatDoorMEm
import Derived.Test.YtnjdkkgkaafdbaaGreatDoorMPutN
import Derived.Test.YtnjdkkgkaafdbaaGreatDoorMF3
namespace Go.Proofs.YtnjdkkgkaafdbaaGreatDoor
open Go Go.RowKit Go.Shelf

set_option maxRecDepth 100000 in
set_option maxHeartbeats 2000000 in
theorem ints_same (w : World) (s1 s2 : Sl) (l : List Int) (R1 : Ints w s1 l) (R2 : Ints w s2 l) (hb : l.length ≤ 1048576) :
    Calls Tryz.prog 10 #[s1.val, s2.val] w fun e w' => e = .returned (.bool true) ∧ Grow w w' := by
  have n1 := R1.len
  have n2 := R2.len
  have H1 := Lib.hid R1
  have H2 := Lib.hid R2
  clear R1 R2
  go_enter Tryz.func10, Tryz.ntmps10
  go_wp2_with fail
  go_loopw [13] (fun i wr => ∃ k : Nat, k ≤ l.length ∧ i = .int .i64 k ∧ Grow w wr) (fun i _ => l.length - (intOf i).toNat)
  case atStart => exact ⟨0, by omega, rfl, grI⟩
  case round =>
    obtain ⟨k, hk, rfl, x, rfl⟩ := hrel
    by_cases hlt : k < l.length
    · obtain ⟨q1, q2⟩ := H1.out.at k hlt
      obtain ⟨q3, q4⟩ := H2.out.at k hlt
      generalize gt l k = y at *
      go_wp2_with fail
      refine wp_region_grow (by kernel_rfl) (by kernel_rfl) ?_; (repeat (go_big_quiet_step ( fail ))); refine wpQuiet_nil ?_; rintro _ ⟨nx, rfl⟩
      go_wp2_with fail
      go_roundw
      case rel => exact ⟨k + 1, by omega, by go_num, grI⟩
      case measure => simp [intOf]; omega
    · go_wp2_with fail
      go_ret
      exact ⟨rfl, grI⟩
theorem run_part_row' {P : Program} (w : World) (e k o : Nat) (cs : Array Value) (ha : (isAgg e).run P w = .ok true w) (hs : (sizeOf e).run P w = .ok k w) : (part e cs o).run P w = .ok (.agg (sub cs o k)) w := by
  unfold part
  rw [Sem.run_bind, ha]
  simp only [Result.andThen_ok, if_true, Sem.run_bind, hs, sub, Sem.run_pure]
@[go_sem] theorem eqIn_players' (w : World) (a : List Int) (ha : a.length = 18) : (Op.equalIn 10000 26 (.agg (cellsOf a)) (.agg (cellsOf a))).run Tryz.prog w = .ok true w := by
  have hsub : ∀ i, i < 2 → sub (cellsOf a) (i * 9) 9 = cellsOf ((a.drop (i * 9)).take 9) := fun i hi => by
    apply Array.ext_getElem?
    intro j
    unfold sub
    rw [Array.getElem?_extract]
    simp only [cellsOf, List.getElem?_toArray, List.getElem?_map, List.getElem?_take, List.getElem?_drop, List.size_toArray, List.length_map, ha]
    by_cases hj : j < 9
    · rw [if_pos (by omega), if_pos hj]
    · rw [if_neg (by omega), if_neg hj]; rfl
  have := run_equalIn_array w 26 25 2 9 Tryz.underlying26 (by kernel_rfl) 9999 (cellsOf a) (cellsOf a) (fun _ => true) (fun i hi => ⟨_, _, run_part_row' w _ 9 _ _ (by kernel_rfl) (by kernel_rfl), run_part_row' w _ 9 _ _ (by kernel_rfl) (by kernel_rfl), by
    rw [hsub i hi, show (9999 : Nat) = 9997 + 2 from rfl, run_equalIn_ints w 25 3 9 Tryz.underlying25 Tryz.underlying3 (by kernel_rfl) 9997 _ _ (by rw [List.length_take, List.length_drop, ha]; omega) (by rw [List.length_take, List.length_drop, ha]; omega)]
    simp⟩)
  rw [show (10000 : Nat) = 9999 + 1 from rfl, this]
  rfl
@[go_sem] theorem eqIn_game' (w : World) (a b : List Int) (ha : a.length = 7) (hb : b.length = 7) : (Op.equalIn 10000 27 (.agg (cellsOf a)) (.agg (cellsOf b))).run Tryz.prog w = .ok (decide (a = b)) w :=
  run_equalIn_ints w 27 3 7 Tryz.underlying27 Tryz.underlying3 (by kernel_rfl) 9998 a b ha hb
set_option maxRecDepth 100000 in
set_option maxHeartbeats 4000000 in
theorem states_same (S : St) (V1 V2 : SV) (w : World) (R1 : RepSt w V1 S) (R2 : RepSt w V2 S) (hS : Small S) :
    Calls Tryz.prog 54 #[.agg (stA V1 S.num), .agg (stA V2 S.num)] w fun e w' => e = .returned (.bool true) ∧ Grow w w' := by
  have n1 := R1.objs.len
  have n2 := R2.objs.len
  have H1 := Lib.hid R1
  have H2 := Lib.hid R2
  have HS := Lib.hid hS
  have hso := hS.objs
  clear R1 R2 hS
  go_enter Tryz.func54, Tryz.ntmps54
  go_wp2_with fail
  go_loopw [31] (fun i wr => ∃ k : Nat, k ≤ S.objs.length ∧ i = .int .i64 k ∧ Grow ((w.alloc (.cells (stA V1 S.num) 29)).alloc (.cells (stA V2 S.num) 29)) wr) (fun i _ => S.objs.length - (intOf i).toNat)
  case atStart => exact ⟨0, by omega, rfl, grI⟩
  case round =>
    obtain ⟨k, hk, rfl, x, rfl⟩ := hrel
    by_cases hlt : k < S.objs.length
    · obtain ⟨qb, qw, qsz, qsub, _⟩ := H1.out.objs.at (by omega) k hlt
      obtain ⟨pb, pw, psz, psub, _⟩ := H2.out.objs.at (by omega) k hlt
      generalize rowAt S.objs k = row at *
      go_wp2_with fail
      refine wp_region_grow (by kernel_rfl) (by kernel_rfl) ?_; (repeat (go_big_quiet_step ( fail ))); refine wpQuiet_nil ?_; rintro _ ⟨nx, rfl⟩
      go_wp2_with fail
      go_roundw
      case rel => exact ⟨k + 1, by omega, by go_num, grI⟩
      case measure => simp [intOf]; omega
    · go_wp2_with fail
      go_loopw [46] (fun i wr => ∃ k : Nat, k ≤ 11 ∧ i = .int .i64 k ∧ Grow ((w.alloc (.cells (stA V1 S.num) 29)).alloc (.cells (stA V2 S.num) 29)) wr) (fun i _ => 11 - (intOf i).toNat)
      case atStart => exact ⟨0, by omega, rfl, grI⟩
      case round =>
        obtain ⟨z, hz, rfl, y, rfl⟩ := hrel
        by_cases hlt : z < 11
        · have HI := Lib.hid (fun W (g : Grow w W) => ints_same W (V1.list z) (V2.list z) (S.list z) ((H1.out.list z hlt).grow g) ((H2.out.list z hlt).grow g) (HS.out.list z hlt))
          go_wp2_with fail
          refine wp_region_grow (by kernel_rfl) (by kernel_rfl) ?_; (repeat (go_big_quiet_step ( (go_at_call 10; first | refine Calls.grow2 (HI.out _ grI) | refine Calls.grow (HI.out _ grI)) ))); refine wpQuiet_nil ?_; rintro _ ⟨nx, rfl⟩
          go_wp2_with fail
          go_roundw
          case rel => exact ⟨z + 1, by omega, by go_num, grI⟩
          case measure => simp [intOf]; omega
        · go_wp2_with fail
          go_ret
          exact ⟨rfl, grI⟩
end Go.Proofs.YtnjdkkgkaafdbaaGreatDoor
namespace Go.Proofs.YtnjdkkgkaafdbaaGreatDoor
open Go Go.RowKit Go.Shelf

theorem cloned_pends (w : World) (s : Sl) (l : List (List Int)) (R : Rows' w s 3 l) (hb : l.length ≤ 1048576) :
    Calls Tryz.prog 93 #[s.val] w fun e w' => ∃ s' : Sl, e = .returned s'.val ∧ Own w' s' 88 3 w.heap.size (flat l) ∧ s'.isNil = s.isNil ∧ Grow w w' := by
  cases s with
  | nil =>
    have hl : l = [] := List.eq_nil_of_length_eq_zero R.len.symm
    subst hl
    refine (AnyE.slices_Clone_nil Tryz.clonePends 0 0 w).mono ?_
    rintro e w' ⟨rfl, rfl⟩
    exact ⟨.nil, rfl, ⟨⟨by simp [Sl.n, flat], Nat.le_refl _, fun j u hu => by simp [flat] at hu⟩, Nat.zero_le _, rfl, fun b h => h.elim⟩, rfl, Grow.refl _⟩
  | mk b o n c =>
    have hn : n = l.length := R.len
    subst hn
    obtain ⟨f1, _⟩ := flat_at 3 l R.wid
    refine (AnyE.slices_Clone Tryz.clonePends Tryz.t88 (.agg (cellsOf (List.replicate 3 0))) 3 24 (by kernel_rfl) (by kernel_rfl) (by kernel_rfl) (by kernel_rfl) rfl (by omega) (fun w => by kernel_rfl) b o l.length c (flat l) w (by rw [flat, List.length_map, f1]) (by unfold maxLen; omega) (by omega) (fun j u hu => R.cells.cell j u hu) (flat_oneCell l)).mono ?_
    rintro e w' ⟨v', rfl, hown, hne, hb⟩
    obtain ⟨s', rfl, hI, _⟩ := own_of_row hown
    refine ⟨s', rfl, hI, ?_, Grow.of_below hb⟩
    cases s' with
    | nil => exact absurd rfl hne
    | mk => rfl
@[go_sem] theorem indexAt_pends (w : World) (s : Sl) (q : IntKind) (i : Int) (h0 : 0 ≤ i) (h1 : i < s.n) : (Instr.indexAt 71 s.val (.int q i)).run Tryz.prog w = .ok (.pointer (some ⟨s.b, s.o + i.toNat * 3, none⟩)) w :=
  run_indexAt_sl w Tryz.underlying71 (fun w => (by kernel_rfl : (sizeOf 88).run Tryz.prog w = .ok 3 w)) s q i h0 h1
@[go_sem] theorem assert_Errno (n : Int) (w : World) : (Instr.typeAssert (.iface 93 (.int .i64 n)) 54 93 true).run Tryz.prog w = .ok (.tuple #[.int .i64 n, .bool true]) w := by kernel_rfl
theorem num_any (n : Int) (w : World) : Calls Tryz.prog 51 #[errV n] w fun e w' => e = .returned (.int .i64 n) ∧ w' = w := by
  by_cases h : n = 0
  · subst h
    rw [errV_0]
    go_enter Tryz.func51, Tryz.ntmps51
    go_wp2_with fail
    go_ret
    exact ⟨rfl, rfl⟩
  · rw [errV_is h]
    have hb : (n != 0) = true := by simpa using h
    clear h
    go_enter Tryz.func51, Tryz.ntmps51
    go_wp2_with fail
    go_ret
    exact ⟨rfl, rfl⟩
set_option maxRecDepth 100000 in
set_option maxHeartbeats 2000000 in
theorem eevents_any (w : World) (b : Nat) (own : Nat → Prop) (E : Em) (R : Emt w b own E) (hl : E.evs.length ≤ 1048576) :
    Calls Tryz.prog 52 #[.pointer (some ⟨b, 0, none⟩)] w fun e w' => ∃ s : Sl, e = .returned s.val ∧ Rows' w' s 6 (if E.err ≠ 0 then [] else E.evs) ∧ Grow w w' := by
  have HE := Lib.hid (fun W (g : Grow w W) => err_any W b own E (R.grow g))
  obtain ⟨V, sd, se, sp, hr, ho⟩ := R
  have hc : w.cell? ⟨b, 38, none⟩ = some se.val := (cell_of_blk hr.host.free hr.host.blk 38).trans (hoA_38 _ _ _ _ _ _)
  have hlt := hr.host.lt
  have hwid := hr.evs.wid
  have HC := Lib.hid (fun W (g : Grow w W) => cloned_events W se E.evs (hr.evs.grow g) hl)
  clear hr ho
  by_cases he : E.err = 0
  · rw [if_neg (by rw [he]; simp)]
    rw [he, errV_0] at HE
    have HW := Lib.hid hwid
    clear he hl hwid
    go_enter Tryz.func52, Tryz.ntmps52
    go_wp2_with (first | (go_at_call 29; refine (HE.out _ grI).mono ?_; rintro e' w' ⟨rfl, nx, rfl⟩) | (go_at_call 92; refine (HC.out _ grI).mono ?_; rintro e' w' ⟨s, rfl, hO, _, nx, rfl⟩; have hO2 := (hO.rows (by omega) HW.out); clear hO; (try simp only [drew_plus] at hO2); (try simp only [plus_plus] at hO2); have HO := Lib.hid hO2; clear hO2))
    go_ret
    exact ⟨s, rfl, HO.out.grow grI, grI⟩
  · rw [if_pos he]
    rw [errV_is he] at HE
    clear he hl hwid
    go_enter Tryz.func52, Tryz.ntmps52
    go_wp2_with (go_at_call 29; refine (HE.out _ grI).mono ?_; rintro e' w' ⟨rfl, nx, rfl⟩)
    go_ret
    exact ⟨.nil, rfl, Rows'.nil _ _, grI⟩
set_option maxRecDepth 100000 in
set_option maxHeartbeats 2000000 in
theorem epending_any (w : World) (b : Nat) (own : Nat → Prop) (E : Em) (R : Emt w b own E) (hl : E.pend.length ≤ 1048576) :
    Calls Tryz.prog 53 #[.pointer (some ⟨b, 0, none⟩)] w fun e w' => ∃ s : Sl, e = .returned s.val ∧ Rows' w' s 3 (if E.err ≠ 0 then [] else E.pend) ∧ Grow w w' := by
  have HE := Lib.hid (fun W (g : Grow w W) => err_any W b own E (R.grow g))
  obtain ⟨V, sd, se, sp, hr, ho⟩ := R
  have hc : w.cell? ⟨b, 39, none⟩ = some sp.val := (cell_of_blk hr.host.free hr.host.blk 39).trans (hoA_39 _ _ _ _ _ _)
  have hlt := hr.host.lt
  have hwid := hr.pend.wid
  have HC := Lib.hid (fun W (g : Grow w W) => cloned_pends W sp E.pend (hr.pend.grow g) hl)
  clear hr ho
  by_cases he : E.err = 0
  · rw [if_neg (by rw [he]; simp)]
    rw [he, errV_0] at HE
    have HW := Lib.hid hwid
    clear he hl hwid
    go_enter Tryz.func53, Tryz.ntmps53
    go_wp2_with (first | (go_at_call 29; refine (HE.out _ grI).mono ?_; rintro e' w' ⟨rfl, nx, rfl⟩) | (go_at_call 93; refine (HC.out _ grI).mono ?_; rintro e' w' ⟨s, rfl, hO, _, nx, rfl⟩; have hO2 := (hO.rows (by omega) HW.out); clear hO; (try simp only [drew_plus] at hO2); (try simp only [plus_plus] at hO2); have HO := Lib.hid hO2; clear hO2))
    go_ret
    exact ⟨s, rfl, HO.out.grow grI, grI⟩
  · rw [if_pos he]
    rw [errV_is he] at HE
    clear he hl hwid
    go_enter Tryz.func53, Tryz.ntmps53
    go_wp2_with (go_at_call 29; refine (HE.out _ grI).mono ?_; rintro e' w' ⟨rfl, nx, rfl⟩)
    go_ret
    exact ⟨.nil, rfl, Rows'.nil _ _, grI⟩
set_option maxRecDepth 100000 in
set_option maxHeartbeats 2000000 in
theorem events_same (w : World) (s1 s2 : Sl) (l : List (List Int)) (R1 : Rows' w s1 6 l) (R2 : Rows' w s2 6 l) (hb : l.length ≤ 1048576) :
    Calls Tryz.prog 55 #[s1.val, s2.val] w fun e w' => e = .returned (.bool true) ∧ Grow w w' := by
  have n1 := R1.len
  have n2 := R2.len
  have H1 := Lib.hid R1
  have H2 := Lib.hid R2
  clear R1 R2
  go_enter Tryz.func55, Tryz.ntmps55
  go_wp2_with fail
  go_loopw [13] (fun i wr => ∃ k : Nat, k ≤ l.length ∧ i = .int .i64 k ∧ Grow w wr) (fun i _ => l.length - (intOf i).toNat)
  case atStart => exact ⟨0, by omega, rfl, grI⟩
  case round =>
    obtain ⟨k, hk, rfl, x, rfl⟩ := hrel
    by_cases hlt : k < l.length
    · obtain ⟨qb, qw, qsz, qsub, _⟩ := H1.out.at (by omega) k hlt
      obtain ⟨pb, pw, psz, psub, _⟩ := H2.out.at (by omega) k hlt
      generalize rowAt l k = row at *
      go_wp2_with fail
      refine wp_region_grow (by kernel_rfl) (by kernel_rfl) ?_; (repeat (go_big_quiet_step ( fail ))); refine wpQuiet_nil ?_; rintro _ ⟨nx, rfl⟩
      go_wp2_with fail
      go_roundw
      case rel => exact ⟨k + 1, by omega, by go_num, grI⟩
      case measure => simp [intOf]; omega
    · go_wp2_with fail
      go_ret
      exact ⟨rfl, grI⟩
end Go.Proofs.YtnjdkkgkaafdbaaGreatDoor
namespace Go.Proofs.YtnjdkkgkaafdbaaGreatDoor
open Go Go.RowKit Go.Shelf

@[go_sem ↓] theorem load_GPending (ρ : Operand → Value) (dst : Option Tmp) (x : Operand) (ty : TypeId) (pos : String) (after : Array Edge) (guard : Option (Nat × Bool)) :
    execOp ρ { dst, op := .load 89 x, type := ty, pos, after, guard } = ldRow 89 (ρ x) := rfl
@[go_sem ↓] theorem store_GPending (ρ : Operand → Value) (dst : Option Tmp) (x y : Operand) (ty : TypeId) (pos : String) (after : Array Edge) (guard : Option (Nat × Bool)) :
    execOp ρ { dst, op := .store 89 x y, type := ty, pos, after, guard } = stRow 89 (ρ x) (ρ y) := rfl
@[go_sem] theorem run_load_GPending (w : World) (b o : Nat) (h : o + 3 ≤ (w.blk b).size) : (ldRow 89 (.pointer (some ⟨b, o, none⟩))).run Tryz.prog w = .ok (.value (.agg (sub (w.blk b) o 3))) w :=
  run_ldSub w b o 89 3 (by kernel_rfl) (by kernel_rfl) h (by omega)
@[go_sem] theorem run_store_GPending (w : World) (b : Nat) (cs : Array Value) (h : (w.blk b).size = 3) (hc : cs.size = 3) (h1 : oneCells cs = true) (hf : w.free b = true) : (stRow 89 (.pointer (some ⟨b, 0, none⟩)) (.agg cs)).run Tryz.prog w = .ok .skip (w.setRow b cs) :=
  run_stRow w b 89 3 _ (by kernel_rfl) h hc (by omega) hf h1
@[go_sem] theorem indexAt_gpends (w : World) (s : Sl) (q : IntKind) (i : Int) (h0 : 0 ≤ i) (h1 : i < s.n) : (Instr.indexAt 76 s.val (.int q i)).run Tryz.prog w = .ok (.pointer (some ⟨s.b, s.o + i.toNat * 3, none⟩)) w :=
  run_indexAt_sl w Tryz.underlying76 (fun w => (by kernel_rfl : (sizeOf 89).run Tryz.prog w = .ok 3 w)) s q i h0 h1
set_option maxRecDepth 100000 in
set_option maxHeartbeats 4000000 in
theorem is19_bad (w : World) (b bg : Nat) (own og : Nat → Prop) (E G : Em) (R : Emt w b own E) (RG : Gmt w bg og G) (he : E.err ≠ 0) (hg : G.err = E.err) (hS : Small E.now) (hl : E.evs.length ≤ 65536) (hp : E.pend.length ≤ 65536) :
    Calls Tryz.prog 19 #[.pointer (some ⟨b, 0, none⟩), .pointer (some ⟨bg, 0, none⟩)] w fun e w' => e = .returned (.bool true) ∧ Grow w w' := by
  have HE := Lib.hid (fun W (g : Grow w W) => err_any W b own E (R.grow g))
  have HNu := Lib.hid (fun W => num_any E.err W)
  have HEv := Lib.hid (fun W (g : Grow w W) => by have := eevents_any W b own E (R.grow g) (by omega); rw [if_pos he] at this; exact this)
  have HPe := Lib.hid (fun W (g : Grow w W) => by have := epending_any W b own E (R.grow g) (by omega); rw [if_pos he] at this; exact this)
  have hst : E.state = St0 := by unfold Em.state; rw [if_pos he]
  have HSt := Lib.hid (fun W (g : Grow w W) => by have := estate_any W b own E (R.grow g) hS; rw [hst] at this; exact this)
  have HSa := Lib.hid (fun W (V' : SV) (r : RepSt W V' St0) => states_same St0 V' SV.zero W r (repSt_zero W) ⟨by simp [St0], fun _ _ => by simp [St0]⟩)
  have h0 : (fun (_ : Nat) => (0 : Int)) = St0.num := rfl
  obtain ⟨V, sd, se, sp, hr, ho⟩ := RG
  obtain ⟨_, _, _, h40⟩ := hr.cells
  have hlt := hr.host.lt
  rw [hg] at h40
  have hb : (E.err != 0) = true := by simpa using he
  generalize E.err = n at *
  clear hr ho R hst he hS hg
  go_enter Tryz.func19, Tryz.ntmps19
  go_wp2_with fail
  refine wp_region_grow (by kernel_rfl) (by kernel_rfl) ?_; (repeat (go_big_quiet_step ( (first | (go_at_call 29; first | refine Calls.grow2 (HE.out _ grI) | refine Calls.grow (HE.out _ grI)) | (go_at_call 51; first | refine Calls.grow2 ((HNu.out _).mono fun _ _ h => ⟨h.1, h.2 ▸ Grow.refl _⟩) | refine Calls.grow ((HNu.out _).mono fun _ _ h => ⟨h.1, h.2 ▸ Grow.refl _⟩))) ))); refine wpQuiet_nil ?_; rintro _ ⟨nx, rfl⟩
  go_wp2_with (first | (go_at_call 52; refine (HEv.out _ grI).mono ?_; rintro e' w' ⟨s1, rfl, hR1, n1, rfl⟩; have hn1 := hR1.len; clear hR1) | (go_at_call 53; refine (HPe.out _ grI).mono ?_; rintro e' w' ⟨s2, rfl, hR2, n2, rfl⟩; have hn2 := hR2.len; clear hR2) | (go_at_call 30; refine (HSt.out _ grI).mono ?_; rintro e' w' ⟨V', rfl, hR', _, n3, rfl⟩; (try simp only [drew_plus] at hR'); (try simp only [plus_plus] at hR'); have HR' := Lib.hid hR'; clear hR') | (go_at_call 54; refine (HSa.out _ V' (HR'.out.grow grI)).mono ?_; rintro e' w' ⟨rfl, n4, rfl⟩))
  go_ret
  exact ⟨rfl, grI⟩
set_option maxRecDepth 100000 in
set_option maxHeartbeats 8000000 in
theorem is19_good (w : World) (b bg : Nat) (own og : Nat → Prop) (E : Em) (R : Emt w b own E) (RG : Gmt w bg og E) (he : E.err = 0) (hS : Small E.now) (hl : E.evs.length ≤ 65536) (hp : E.pend.length ≤ 65536) :
    Calls Tryz.prog 19 #[.pointer (some ⟨b, 0, none⟩), .pointer (some ⟨bg, 0, none⟩)] w fun e w' => e = .returned (.bool true) ∧ Grow w w' := by
  have hne : ¬ E.err ≠ 0 := by rw [he]; simp
  have HE := Lib.hid (fun W (g : Grow w W) => by have := err_any W b own E (R.grow g); rw [he] at this; exact this)
  have HNu := Lib.hid (fun W => num_any 0 W)
  have HEv := Lib.hid (fun W (g : Grow w W) => by have := eevents_any W b own E (R.grow g) (by omega); rw [if_neg hne] at this; exact this)
  have HPe := Lib.hid (fun W (g : Grow w W) => by have := epending_any W b own E (R.grow g) (by omega); rw [if_neg hne] at this; exact this)
  have hst : E.state = E.now := by unfold Em.state; rw [if_neg hne]
  have HSt := Lib.hid (fun W (g : Grow w W) => by have := estate_any W b own E (R.grow g) hS; rw [hst] at this; exact this)
  obtain ⟨V, sd, se, sp, hr, ho⟩ := RG
  have HSa := Lib.hid (fun W (g : Grow w W) (V' : SV) (r : RepSt W V' E.now) => states_same E.now V' V W r (hr.host.rep.grow g) hS)
  have HEs := Lib.hid (fun W (g : Grow w W) (s : Sl) (r : Rows' W s 6 E.evs) => events_same W s se E.evs r (hr.evs.grow g) (by omega))
  have HPr := Lib.hid hr.pend
  obtain ⟨_, h38, h39, h40⟩ := hr.cells
  have hbl := hr.host.blk
  have hlt := hr.host.lt
  have hpn := hr.pend.len
  have hen := hr.evs.len
  rw [he] at h40
  clear hr ho R hst hS hne
  rw [errV_0] at HE HNu
  go_enter Tryz.func19, Tryz.ntmps19
  go_wp2_with fail
  refine wp_region_grow (by kernel_rfl) (by kernel_rfl) ?_; (repeat (go_big_quiet_step ( (first | (go_at_call 29; first | refine Calls.grow2 (HE.out _ grI) | refine Calls.grow (HE.out _ grI)) | (go_at_call 51; first | refine Calls.grow2 ((HNu.out _).mono fun _ _ h => ⟨h.1, h.2 ▸ Grow.refl _⟩) | refine Calls.grow ((HNu.out _).mono fun _ _ h => ⟨h.1, h.2 ▸ Grow.refl _⟩))) ))); refine wpQuiet_nil ?_; rintro _ ⟨nx, rfl⟩
  go_wp2_with (go_at_call 53; refine (HPe.out _ grI).mono ?_; rintro e' w' ⟨s2, rfl, hR2, n2, rfl⟩; (try simp only [drew_plus] at hR2); (try simp only [plus_plus] at hR2); have hn2 := hR2.len; have HR2 := Lib.hid hR2; clear hR2)
  go_region_held3 (fun W => W.blk bg = hoA V E.now.num (gR sd se sp E.err) ∧ W.cell? ⟨bg, 38, none⟩ = some se.val ∧ W.cell? ⟨bg, 39, none⟩ = some sp.val) (simp [go_sem, *]) (first | (go_at_call 52; refine (HEv.out _ grI).mono ?_; rintro e' w' ⟨s1, rfl, hR1, n1, rfl⟩; (try simp only [drew_plus] at hR1); (try simp only [plus_plus] at hR1); have hn1 := hR1.len; have HR1 := Lib.hid hR1; clear hR1) | (go_at_call 30; refine (HSt.out _ grI).mono ?_; rintro e' w' ⟨V', rfl, hR', _, n3, rfl⟩; (try simp only [drew_plus] at hR'); (try simp only [plus_plus] at hR'); have HR' := Lib.hid hR'; clear hR') | (go_at_call 55; refine (HEs.out _ grI s1 (HR1.out.grow grI)).mono ?_; rintro e' w' ⟨rfl, n4, rfl⟩) | (go_at_call 54; refine (HSa.out _ grI V' (HR'.out.grow grI)).mono ?_; rintro e' w' ⟨rfl, n5, rfl⟩))
  all_goals
    obtain ⟨W2, hW2⟩ : ∃ W2, W2 = w.plus (nx.and n2) := ⟨_, rfl⟩
    have r2 : Rows' W2 s2 3 E.pend := by rw [hW2]; exact HR2.out
    have rp : Rows' W2 sp 3 E.pend := by rw [hW2]; exact HPr.out.grow grI
    have c39 : W2.cell? ⟨bg, 39, none⟩ = some sp.val := by rw [hW2, plus_cell_lt _ _ _ _ hlt]; exact h39
    have lt2 : bg < W2.heap.size := by rw [hW2, plus_size]; omega
    have gw : Grow w W2 := by rw [hW2]; exact grI
    have gl : Grow W2 (w.plus (((((nx.and n2).and n1.late).and n4).and n3).and n5)) := by rw [hW2]; exact grI
    have HW := Lib.hid (And.intro r2 (And.intro rp (And.intro gw gl)))
    clear hW2 r2 rp gw gl HR2 HPr HR1 HR'
    go_wp2_with fail
    go_loopw [66] (fun i wr => ∃ k : Nat, k ≤ E.pend.length ∧ i = .int .i64 k ∧ Grow W2 wr) (fun i _ => E.pend.length - (intOf i).toNat)
    case atStart => exact ⟨0, by omega, rfl, HW.out.2.2.2⟩
    case round =>
      obtain ⟨k, hk, rfl, x, rfl⟩ := hrel
      by_cases hlt2 : k < E.pend.length
      · obtain ⟨qb, qw, qsz, qsub, qc⟩ := HW.out.1.at (by omega) k hlt2
        obtain ⟨pb, pw, psz, psub, pc⟩ := HW.out.2.1.at (by omega) k hlt2
        clear qc pc
        generalize rowAt E.pend k = row at *
        go_wp2_with fail
        refine wp_region_grow (by kernel_rfl) (by kernel_rfl) ?_; (repeat (go_big_quiet_step ( fail ))); refine wpQuiet_nil ?_; rintro _ ⟨nx, rfl⟩
        go_wp2_with fail
        go_roundw
        case rel => exact ⟨k + 1, by omega, by go_num, grI⟩
        case measure => simp [intOf]; omega
      · go_wp2_with fail
        go_ret
        exact ⟨rfl, HW.out.2.2.1.trans grI⟩
end Go.Proofs.YtnjdkkgkaafdbaaGreatDoor
