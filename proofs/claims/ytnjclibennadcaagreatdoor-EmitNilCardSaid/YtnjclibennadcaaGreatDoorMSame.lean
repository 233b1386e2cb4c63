/-
  The walks of Ints and States: two lists, two states are the same.
-/
import Derived.Test.YtnjclibennadcaaGreatDoorMEm
namespace Go.Proofs.YtnjclibennadcaaGreatDoor
open Go Go.RowKit Go.Shelf

set_option maxRecDepth 100000 in
set_option maxHeartbeats 2000000 in
theorem ints_same (w : World) (s1 s2 : Sl) (l : List Int) (R1 : Ints w s1 l) (R2 : Ints w s2 l) (hb : l.length ≤ 1048576) :
    Calls Tryz.prog 21 #[s1.val, s2.val] w fun e w' => e = .returned (.bool true) ∧ Grow w w' := by
  have n1 := R1.len
  have n2 := R2.len
  have H1 := Lib.hid R1
  have H2 := Lib.hid R2
  clear R1 R2
  go_enter Tryz.func21, Tryz.ntmps21
  go_wp2_with fail
  go_loopw [13] (fun i wr => ∃ k : Nat, k ≤ l.length ∧ i = .int .i64 k ∧ Grow w wr) (fun i _ => l.length - (intOf i).toNat)
  case atStart => exact ⟨0, by omega, rfl, grI⟩
  case round =>
    obtain ⟨k, hk, rfl, x, rfl⟩ := hrel
    by_cases hlt : k < l.length
    · obtain ⟨q1, q2⟩ := H1.out.at k hlt
      obtain ⟨q3, q4⟩ := H2.out.at k hlt
      generalize gt l k = y at *
      go_wp2_with fail
      refine wp_region_grow (by kernel_rfl) (by kernel_rfl) ?_; (repeat (go_big_quiet_step ( fail ))); refine wpQuiet_nil ?_; rintro _ ⟨nx, rfl⟩
      go_wp2_with fail
      go_roundw
      case rel => exact ⟨k + 1, by omega, by go_num, grI⟩
      case measure => simp [intOf]; omega
    · go_wp2_with fail
      go_ret
      exact ⟨rfl, grI⟩
theorem run_part_row' {P : Program} (w : World) (e k o : Nat) (cs : Array Value) (ha : (isAgg e).run P w = .ok true w) (hs : (sizeOf e).run P w = .ok k w) : (part e cs o).run P w = .ok (.agg (sub cs o k)) w := by
  unfold part
  rw [Sem.run_bind, ha]
  simp only [Result.andThen_ok, if_true, Sem.run_bind, hs, sub, Sem.run_pure]
@[go_sem] theorem eqIn_players' (w : World) (a : List Int) (ha : a.length = 18) : (Op.equalIn 10000 26 (.agg (cellsOf a)) (.agg (cellsOf a))).run Tryz.prog w = .ok true w := by
  have hsub : ∀ i, i < 2 → sub (cellsOf a) (i * 9) 9 = cellsOf ((a.drop (i * 9)).take 9) := fun i hi => by
    apply Array.ext_getElem?
    intro j
    unfold sub
    rw [Array.getElem?_extract]
    simp only [cellsOf, List.getElem?_toArray, List.getElem?_map, List.getElem?_take, List.getElem?_drop, List.size_toArray, List.length_map, ha]
    by_cases hj : j < 9
    · rw [if_pos (by omega), if_pos hj]
    · rw [if_neg (by omega), if_neg hj]; rfl
  have := run_equalIn_array w 26 25 2 9 Tryz.underlying26 (by kernel_rfl) 9999 (cellsOf a) (cellsOf a) (fun _ => true) (fun i hi => ⟨_, _, run_part_row' w _ 9 _ _ (by kernel_rfl) (by kernel_rfl), run_part_row' w _ 9 _ _ (by kernel_rfl) (by kernel_rfl), by
    rw [hsub i hi, show (9999 : Nat) = 9997 + 2 from rfl, run_equalIn_ints w 25 3 9 Tryz.underlying25 Tryz.underlying3 (by kernel_rfl) 9997 _ _ (by rw [List.length_take, List.length_drop, ha]; omega) (by rw [List.length_take, List.length_drop, ha]; omega)]
    simp⟩)
  rw [show (10000 : Nat) = 9999 + 1 from rfl, this]
  rfl
@[go_sem] theorem eqIn_game' (w : World) (a b : List Int) (ha : a.length = 7) (hb : b.length = 7) : (Op.equalIn 10000 27 (.agg (cellsOf a)) (.agg (cellsOf b))).run Tryz.prog w = .ok (decide (a = b)) w :=
  run_equalIn_ints w 27 3 7 Tryz.underlying27 Tryz.underlying3 (by kernel_rfl) 9998 a b ha hb
set_option maxRecDepth 100000 in
set_option maxHeartbeats 4000000 in
theorem states_same (S : St) (V1 V2 : SV) (w : World) (R1 : RepSt w V1 S) (R2 : RepSt w V2 S) (hS : Small S) :
    Calls Tryz.prog 49 #[.agg (stA V1 S.num), .agg (stA V2 S.num)] w fun e w' => e = .returned (.bool true) ∧ Grow w w' := by
  have n1 := R1.objs.len
  have n2 := R2.objs.len
  have H1 := Lib.hid R1
  have H2 := Lib.hid R2
  have HS := Lib.hid hS
  have hso := hS.objs
  clear R1 R2 hS
  go_enter Tryz.func49, Tryz.ntmps49
  go_wp2_with fail
  go_loopw [31] (fun i wr => ∃ k : Nat, k ≤ S.objs.length ∧ i = .int .i64 k ∧ Grow ((w.alloc (.cells (stA V1 S.num) 29)).alloc (.cells (stA V2 S.num) 29)) wr) (fun i _ => S.objs.length - (intOf i).toNat)
  case atStart => exact ⟨0, by omega, rfl, grI⟩
  case round =>
    obtain ⟨k, hk, rfl, x, rfl⟩ := hrel
    by_cases hlt : k < S.objs.length
    · obtain ⟨qb, qw, qsz, qsub, _⟩ := H1.out.objs.at (by omega) k hlt
      obtain ⟨pb, pw, psz, psub, _⟩ := H2.out.objs.at (by omega) k hlt
      generalize rowAt S.objs k = row at *
      go_wp2_with fail
      refine wp_region_grow (by kernel_rfl) (by kernel_rfl) ?_; (repeat (go_big_quiet_step ( fail ))); refine wpQuiet_nil ?_; rintro _ ⟨nx, rfl⟩
      go_wp2_with fail
      go_roundw
      case rel => exact ⟨k + 1, by omega, by go_num, grI⟩
      case measure => simp [intOf]; omega
    · go_wp2_with fail
      go_loopw [46] (fun i wr => ∃ k : Nat, k ≤ 11 ∧ i = .int .i64 k ∧ Grow ((w.alloc (.cells (stA V1 S.num) 29)).alloc (.cells (stA V2 S.num) 29)) wr) (fun i _ => 11 - (intOf i).toNat)
      case atStart => exact ⟨0, by omega, rfl, grI⟩
      case round =>
        obtain ⟨z, hz, rfl, y, rfl⟩ := hrel
        by_cases hlt : z < 11
        · have HI := Lib.hid (fun W (g : Grow w W) => ints_same W (V1.list z) (V2.list z) (S.list z) ((H1.out.list z hlt).grow g) ((H2.out.list z hlt).grow g) (HS.out.list z hlt))
          go_wp2_with fail
          refine wp_region_grow (by kernel_rfl) (by kernel_rfl) ?_; (repeat (go_big_quiet_step ( (go_at_call 21; first | refine Calls.grow2 (HI.out _ grI) | refine Calls.grow (HI.out _ grI)) ))); refine wpQuiet_nil ?_; rintro _ ⟨nx, rfl⟩
          go_wp2_with fail
          go_roundw
          case rel => exact ⟨z + 1, by omega, by go_num, grI⟩
          case measure => simp [intOf]; omega
        · go_wp2_with fail
          go_ret
          exact ⟨rfl, grI⟩
end Go.Proofs.YtnjclibennadcaaGreatDoor
