/-
  The walks of an emitter's Events and Pending, of Num and Events.
-/
import Derived.Test.YtnjclibennadcaaGreatDoorMPutN
import Derived.Test.YtnjclibennadcaaGreatDoorMSame
namespace Go.Proofs.YtnjclibennadcaaGreatDoor
open Go Go.RowKit Go.Shelf

theorem cloned_pends (w : World) (s : Sl) (l : List (List Int)) (R : Rows' w s 3 l) (hb : l.length ≤ 1048576) :
    Calls Tryz.prog 110 #[s.val] w fun e w' => ∃ s' : Sl, e = .returned s'.val ∧ Own w' s' 107 3 w.heap.size (flat l) ∧ s'.isNil = s.isNil ∧ Grow w w' := by
  cases s with
  | nil =>
    have hl : l = [] := List.eq_nil_of_length_eq_zero R.len.symm
    subst hl
    refine (AnyE.slices_Clone_nil Tryz.clonePends 0 0 w).mono ?_
    rintro e w' ⟨rfl, rfl⟩
    exact ⟨.nil, rfl, ⟨⟨by simp [Sl.n, flat], Nat.le_refl _, fun j u hu => by simp [flat] at hu⟩, Nat.zero_le _, rfl, fun b h => h.elim⟩, rfl, Grow.refl _⟩
  | mk b o n c =>
    have hn : n = l.length := R.len
    subst hn
    obtain ⟨f1, _⟩ := flat_at 3 l R.wid
    refine (AnyE.slices_Clone Tryz.clonePends Tryz.t107 (.agg (cellsOf (List.replicate 3 0))) 3 24 (by kernel_rfl) (by kernel_rfl) (by kernel_rfl) (by kernel_rfl) rfl (by omega) (fun w => by kernel_rfl) b o l.length c (flat l) w (by rw [flat, List.length_map, f1]) (by unfold maxLen; omega) (by omega) (fun j u hu => R.cells.cell j u hu) (flat_oneCell l)).mono ?_
    rintro e w' ⟨v', rfl, hown, hne, hb⟩
    obtain ⟨s', rfl, hI, _⟩ := own_of_row hown
    refine ⟨s', rfl, hI, ?_, Grow.of_below hb⟩
    cases s' with
    | nil => exact absurd rfl hne
    | mk => rfl
@[go_sem] theorem indexAt_pends (w : World) (s : Sl) (q : IntKind) (i : Int) (h0 : 0 ≤ i) (h1 : i < s.n) : (Instr.indexAt 90 s.val (.int q i)).run Tryz.prog w = .ok (.pointer (some ⟨s.b, s.o + i.toNat * 3, none⟩)) w :=
  run_indexAt_sl w Tryz.underlying90 (fun w => (by kernel_rfl : (sizeOf 107).run Tryz.prog w = .ok 3 w)) s q i h0 h1
@[go_sem] theorem assert_Errno (n : Int) (w : World) : (Instr.typeAssert (.iface 88 (.int .i64 n)) 56 88 true).run Tryz.prog w = .ok (.tuple #[.int .i64 n, .bool true]) w := by kernel_rfl
theorem num_any (n : Int) (w : World) : Calls Tryz.prog 52 #[errV n] w fun e w' => e = .returned (.int .i64 n) ∧ w' = w := by
  by_cases h : n = 0
  · subst h
    rw [errV_0]
    go_enter Tryz.func52, Tryz.ntmps52
    go_wp2_with fail
    go_ret
    exact ⟨rfl, rfl⟩
  · rw [errV_is h]
    have hb : (n != 0) = true := by simpa using h
    clear h
    go_enter Tryz.func52, Tryz.ntmps52
    go_wp2_with fail
    go_ret
    exact ⟨rfl, rfl⟩
set_option maxRecDepth 100000 in
set_option maxHeartbeats 2000000 in
theorem eevents_any (w : World) (b : Nat) (own : Nat → Prop) (E : Em) (R : Emt w b own E) (hl : E.evs.length ≤ 1048576) :
    Calls Tryz.prog 47 #[.pointer (some ⟨b, 0, none⟩)] w fun e w' => ∃ s : Sl, e = .returned s.val ∧ Rows' w' s 6 (if E.err ≠ 0 then [] else E.evs) ∧ Grow w w' := by
  have HE := Lib.hid (fun W (g : Grow w W) => err_any W b own E (R.grow g))
  obtain ⟨V, sd, se, sp, hr, ho⟩ := R
  have hc : w.cell? ⟨b, 38, none⟩ = some se.val := (cell_of_blk hr.host.free hr.host.blk 38).trans (hoA_38 _ _ _ _ _ _)
  have hlt := hr.host.lt
  have hwid := hr.evs.wid
  have HC := Lib.hid (fun W (g : Grow w W) => cloned_events W se E.evs (hr.evs.grow g) hl)
  clear hr ho
  by_cases he : E.err = 0
  · rw [if_neg (by rw [he]; simp)]
    rw [he, errV_0] at HE
    have HW := Lib.hid hwid
    clear he hl hwid
    go_enter Tryz.func47, Tryz.ntmps47
    go_wp2_with (first | (go_at_call 37; refine (HE.out _ grI).mono ?_; rintro e' w' ⟨rfl, nx, rfl⟩) | (go_at_call 107; refine (HC.out _ grI).mono ?_; rintro e' w' ⟨s, rfl, hO, _, nx, rfl⟩; have hO2 := (hO.rows (by omega) HW.out); clear hO; (try simp only [drew_plus] at hO2); (try simp only [plus_plus] at hO2); have HO := Lib.hid hO2; clear hO2))
    go_ret
    exact ⟨s, rfl, HO.out.grow grI, grI⟩
  · rw [if_pos he]
    rw [errV_is he] at HE
    clear he hl hwid
    go_enter Tryz.func47, Tryz.ntmps47
    go_wp2_with (go_at_call 37; refine (HE.out _ grI).mono ?_; rintro e' w' ⟨rfl, nx, rfl⟩)
    go_ret
    exact ⟨.nil, rfl, Rows'.nil _ _, grI⟩
set_option maxRecDepth 100000 in
set_option maxHeartbeats 2000000 in
theorem epending_any (w : World) (b : Nat) (own : Nat → Prop) (E : Em) (R : Emt w b own E) (hl : E.pend.length ≤ 1048576) :
    Calls Tryz.prog 54 #[.pointer (some ⟨b, 0, none⟩)] w fun e w' => ∃ s : Sl, e = .returned s.val ∧ Rows' w' s 3 (if E.err ≠ 0 then [] else E.pend) ∧ Grow w w' := by
  have HE := Lib.hid (fun W (g : Grow w W) => err_any W b own E (R.grow g))
  obtain ⟨V, sd, se, sp, hr, ho⟩ := R
  have hc : w.cell? ⟨b, 39, none⟩ = some sp.val := (cell_of_blk hr.host.free hr.host.blk 39).trans (hoA_39 _ _ _ _ _ _)
  have hlt := hr.host.lt
  have hwid := hr.pend.wid
  have HC := Lib.hid (fun W (g : Grow w W) => cloned_pends W sp E.pend (hr.pend.grow g) hl)
  clear hr ho
  by_cases he : E.err = 0
  · rw [if_neg (by rw [he]; simp)]
    rw [he, errV_0] at HE
    have HW := Lib.hid hwid
    clear he hl hwid
    go_enter Tryz.func54, Tryz.ntmps54
    go_wp2_with (first | (go_at_call 37; refine (HE.out _ grI).mono ?_; rintro e' w' ⟨rfl, nx, rfl⟩) | (go_at_call 110; refine (HC.out _ grI).mono ?_; rintro e' w' ⟨s, rfl, hO, _, nx, rfl⟩; have hO2 := (hO.rows (by omega) HW.out); clear hO; (try simp only [drew_plus] at hO2); (try simp only [plus_plus] at hO2); have HO := Lib.hid hO2; clear hO2))
    go_ret
    exact ⟨s, rfl, HO.out.grow grI, grI⟩
  · rw [if_pos he]
    rw [errV_is he] at HE
    clear he hl hwid
    go_enter Tryz.func54, Tryz.ntmps54
    go_wp2_with (go_at_call 37; refine (HE.out _ grI).mono ?_; rintro e' w' ⟨rfl, nx, rfl⟩)
    go_ret
    exact ⟨.nil, rfl, Rows'.nil _ _, grI⟩
set_option maxRecDepth 100000 in
set_option maxHeartbeats 2000000 in
theorem events_same (w : World) (s1 s2 : Sl) (l : List (List Int)) (R1 : Rows' w s1 6 l) (R2 : Rows' w s2 6 l) (hb : l.length ≤ 1048576) :
    Calls Tryz.prog 66 #[s1.val, s2.val] w fun e w' => e = .returned (.bool true) ∧ Grow w w' := by
  have n1 := R1.len
  have n2 := R2.len
  have H1 := Lib.hid R1
  have H2 := Lib.hid R2
  clear R1 R2
  go_enter Tryz.func66, Tryz.ntmps66
  go_wp2_with fail
  go_loopw [13] (fun i wr => ∃ k : Nat, k ≤ l.length ∧ i = .int .i64 k ∧ Grow w wr) (fun i _ => l.length - (intOf i).toNat)
  case atStart => exact ⟨0, by omega, rfl, grI⟩
  case round =>
    obtain ⟨k, hk, rfl, x, rfl⟩ := hrel
    by_cases hlt : k < l.length
    · obtain ⟨qb, qw, qsz, qsub, _⟩ := H1.out.at (by omega) k hlt
      obtain ⟨pb, pw, psz, psub, _⟩ := H2.out.at (by omega) k hlt
      generalize rowAt l k = row at *
      go_wp2_with fail
      refine wp_region_grow (by kernel_rfl) (by kernel_rfl) ?_; (repeat (go_big_quiet_step ( fail ))); refine wpQuiet_nil ?_; rintro _ ⟨nx, rfl⟩
      go_wp2_with fail
      go_roundw
      case rel => exact ⟨k + 1, by omega, by go_num, grI⟩
      case measure => simp [intOf]; omega
    · go_wp2_with fail
      go_ret
      exact ⟨rfl, grI⟩
end Go.Proofs.YtnjclibennadcaaGreatDoor
