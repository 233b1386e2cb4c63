/-
  The walks of an emitter's Events and Pending, of Num and Events.
  The walk of Is: an emitter and the document's tell the same.
  The walk of the law CheckRuns.
  The law CheckRuns holds for any input.
  The law CheckRuns holds for any input: the tied card.
-/
import Derived.Test.YtnjclibennadcaaGreatDoorMPutN
import Derived.Test.YtnjclibennadcaaGreatDoorMChk
import Derived.Test.YtnjclibennadcaaGreatDoorMG7
import Derived.Test.YtnjclibennadcaaGreatDoorMG9
import Derived.Test.YtnjclibennadcaaGreatDoorMLaw20
import Derived.Deep.RegionHeld3
import Derived.Test.YtnjclibennadcaaGreatDoorMLawS
import Derived.Test.YtnjclibennadcaaGreatDoorMRef08j
import Derived.Test.YtnjclibennadcaaGreatDoorMRef17d
import Derived.Test.YtnjclibennadcaaGreatDoorCards
import Derived.Test.YtnjclibennadcaaGreatDoorTie
namespace Go.Proofs.YtnjclibennadcaaGreatDoor
open Go Go.RowKit Go.Shelf

theorem cloned_pends (w : World) (s : Sl) (l : List (List Int)) (R : Rows' w s 3 l) (hb : l.length ≤ 1048576) :
    Calls Tryz.prog 110 #[s.val] w fun e w' => ∃ s' : Sl, e = .returned s'.val ∧ Own w' s' 107 3 w.heap.size (flat l) ∧ s'.isNil = s.isNil ∧ Grow w w' := by
  cases s with
  | nil =>
    have hl : l = [] := List.eq_nil_of_length_eq_zero R.len.symm
    subst hl
    refine (AnyE.slices_Clone_nil Tryz.clonePends 0 0 w).mono ?_
    rintro e w' ⟨rfl, rfl⟩
    exact ⟨.nil, rfl, ⟨⟨by simp [Sl.n, flat], Nat.le_refl _, fun j u hu => by simp [flat] at hu⟩, Nat.zero_le _, rfl, fun b h => h.elim⟩, rfl, Grow.refl _⟩
  | mk b o n c =>
    have hn : n = l.length := R.len
    subst hn
    obtain ⟨f1, _⟩ := flat_at 3 l R.wid
    refine (AnyE.slices_Clone Tryz.clonePends Tryz.t107 (.agg (cellsOf (List.replicate 3 0))) 3 24 (by kernel_rfl) (by kernel_rfl) (by kernel_rfl) (by kernel_rfl) rfl (by omega) (fun w => by kernel_rfl) b o l.length c (flat l) w (by rw [flat, List.length_map, f1]) (by unfold maxLen; omega) (by omega) (fun j u hu => R.cells.cell j u hu) (flat_oneCell l)).mono ?_
    rintro e w' ⟨v', rfl, hown, hne, hb⟩
    obtain ⟨s', rfl, hI, _⟩ := own_of_row hown
    refine ⟨s', rfl, hI, ?_, Grow.of_below hb⟩
    cases s' with
    | nil => exact absurd rfl hne
    | mk => rfl
@[go_sem] theorem assert_Errno (n : Int) (w : World) : (Instr.typeAssert (.iface 88 (.int .i64 n)) 56 88 true).run Tryz.prog w = .ok (.tuple #[.int .i64 n, .bool true]) w := by kernel_rfl
theorem num_any (n : Int) (w : World) : Calls Tryz.prog 52 #[errV n] w fun e w' => e = .returned (.int .i64 n) ∧ w' = w := by
  by_cases h : n = 0
  · subst h
    rw [errV_0]
    go_enter Tryz.func52, Tryz.ntmps52
    go_wp2_with fail
    go_ret
    exact ⟨rfl, rfl⟩
  · rw [errV_is h]
    have hb : (n != 0) = true := by simpa using h
    clear h
    go_enter Tryz.func52, Tryz.ntmps52
    go_wp2_with fail
    go_ret
    exact ⟨rfl, rfl⟩
set_option maxRecDepth 100000 in
set_option maxHeartbeats 2000000 in
theorem eevents_any (w : World) (b : Nat) (own : Nat → Prop) (E : Em) (R : Emt w b own E) (hl : E.evs.length ≤ 1048576) :
    Calls Tryz.prog 47 #[.pointer (some ⟨b, 0, none⟩)] w fun e w' => ∃ s : Sl, e = .returned s.val ∧ Rows' w' s 6 (if E.err ≠ 0 then [] else E.evs) ∧ Grow w w' := by
  have HE := Lib.hid (fun W (g : Grow w W) => err_any W b own E (R.grow g))
  obtain ⟨V, sd, se, sp, hr, ho⟩ := R
  have hc : w.cell? ⟨b, 38, none⟩ = some se.val := (cell_of_blk hr.host.free hr.host.blk 38).trans (hoA_38 _ _ _ _ _ _)
  have hlt := hr.host.lt
  have hwid := hr.evs.wid
  have HC := Lib.hid (fun W (g : Grow w W) => cloned_events W se E.evs (hr.evs.grow g) hl)
  clear hr ho
  by_cases he : E.err = 0
  · rw [if_neg (by rw [he]; simp)]
    rw [he, errV_0] at HE
    have HW := Lib.hid hwid
    clear he hl hwid
    go_enter Tryz.func47, Tryz.ntmps47
    go_wp2_with (first | (go_at_call 37; refine (HE.out _ grI).mono ?_; rintro e' w' ⟨rfl, nx, rfl⟩) | (go_at_call 107; refine (HC.out _ grI).mono ?_; rintro e' w' ⟨s, rfl, hO, _, nx, rfl⟩; have hO2 := (hO.rows (by omega) HW.out); clear hO; (try simp only [drew_plus] at hO2); (try simp only [plus_plus] at hO2); have HO := Lib.hid hO2; clear hO2))
    go_ret
    exact ⟨s, rfl, HO.out.grow grI, grI⟩
  · rw [if_pos he]
    rw [errV_is he] at HE
    clear he hl hwid
    go_enter Tryz.func47, Tryz.ntmps47
    go_wp2_with (go_at_call 37; refine (HE.out _ grI).mono ?_; rintro e' w' ⟨rfl, nx, rfl⟩)
    go_ret
    exact ⟨.nil, rfl, Rows'.nil _ _, grI⟩
set_option maxRecDepth 100000 in
set_option maxHeartbeats 2000000 in
theorem epending_any (w : World) (b : Nat) (own : Nat → Prop) (E : Em) (R : Emt w b own E) (hl : E.pend.length ≤ 1048576) :
    Calls Tryz.prog 54 #[.pointer (some ⟨b, 0, none⟩)] w fun e w' => ∃ s : Sl, e = .returned s.val ∧ Rows' w' s 3 (if E.err ≠ 0 then [] else E.pend) ∧ Grow w w' := by
  have HE := Lib.hid (fun W (g : Grow w W) => err_any W b own E (R.grow g))
  obtain ⟨V, sd, se, sp, hr, ho⟩ := R
  have hc : w.cell? ⟨b, 39, none⟩ = some sp.val := (cell_of_blk hr.host.free hr.host.blk 39).trans (hoA_39 _ _ _ _ _ _)
  have hlt := hr.host.lt
  have hwid := hr.pend.wid
  have HC := Lib.hid (fun W (g : Grow w W) => cloned_pends W sp E.pend (hr.pend.grow g) hl)
  clear hr ho
  by_cases he : E.err = 0
  · rw [if_neg (by rw [he]; simp)]
    rw [he, errV_0] at HE
    have HW := Lib.hid hwid
    clear he hl hwid
    go_enter Tryz.func54, Tryz.ntmps54
    go_wp2_with (first | (go_at_call 37; refine (HE.out _ grI).mono ?_; rintro e' w' ⟨rfl, nx, rfl⟩) | (go_at_call 110; refine (HC.out _ grI).mono ?_; rintro e' w' ⟨s, rfl, hO, _, nx, rfl⟩; have hO2 := (hO.rows (by omega) HW.out); clear hO; (try simp only [drew_plus] at hO2); (try simp only [plus_plus] at hO2); have HO := Lib.hid hO2; clear hO2))
    go_ret
    exact ⟨s, rfl, HO.out.grow grI, grI⟩
  · rw [if_pos he]
    rw [errV_is he] at HE
    clear he hl hwid
    go_enter Tryz.func54, Tryz.ntmps54
    go_wp2_with (go_at_call 37; refine (HE.out _ grI).mono ?_; rintro e' w' ⟨rfl, nx, rfl⟩)
    go_ret
    exact ⟨.nil, rfl, Rows'.nil _ _, grI⟩
set_option maxRecDepth 100000 in
set_option maxHeartbeats 2000000 in
theorem events_same (w : World) (s1 s2 : Sl) (l : List (List Int)) (R1 : Rows' w s1 6 l) (R2 : Rows' w s2 6 l) (hb : l.length ≤ 1048576) :
    Calls Tryz.prog 66 #[s1.val, s2.val] w fun e w' => e = .returned (.bool true) ∧ Grow w w' := by
  have n1 := R1.len
  have n2 := R2.len
  have H1 := Lib.hid R1
  have H2 := Lib.hid R2
  clear R1 R2
  go_enter Tryz.func66, Tryz.ntmps66
  go_wp2_with fail
  go_loopw [13] (fun i wr => ∃ k : Nat, k ≤ l.length ∧ i = .int .i64 k ∧ Grow w wr) (fun i _ => l.length - (intOf i).toNat)
  case atStart => exact ⟨0, by omega, rfl, grI⟩
  case round =>
    obtain ⟨k, hk, rfl, x, rfl⟩ := hrel
    by_cases hlt : k < l.length
    · obtain ⟨qb, qw, qsz, qsub, _⟩ := H1.out.at (by omega) k hlt
      obtain ⟨pb, pw, psz, psub, _⟩ := H2.out.at (by omega) k hlt
      generalize rowAt l k = row at *
      go_wp2_with fail
      refine wp_region_grow (by kernel_rfl) (by kernel_rfl) ?_; (repeat (go_big_quiet_step ( fail ))); refine wpQuiet_nil ?_; rintro _ ⟨nx, rfl⟩
      go_wp2_with fail
      go_roundw
      case rel => exact ⟨k + 1, by omega, by go_num, grI⟩
      case measure => simp [intOf]; omega
    · go_wp2_with fail
      go_ret
      exact ⟨rfl, grI⟩
end Go.Proofs.YtnjclibennadcaaGreatDoor
namespace Go.Proofs.YtnjclibennadcaaGreatDoor
open Go Go.RowKit Go.Shelf

@[go_sem] theorem indexAt_pends (w : World) (s : Sl) (q : IntKind) (i : Int) (h0 : 0 ≤ i) (h1 : i < s.n) : (Instr.indexAt 90 s.val (.int q i)).run Tryz.prog w = .ok (.pointer (some ⟨s.b, s.o + i.toNat * 3, none⟩)) w :=
  run_indexAt_sl w Tryz.underlying90 (fun w => (by kernel_rfl : (sizeOf 107).run Tryz.prog w = .ok 3 w)) s q i h0 h1
@[go_sem] theorem indexAt_gpends (w : World) (s : Sl) (q : IntKind) (i : Int) (h0 : 0 ≤ i) (h1 : i < s.n) : (Instr.indexAt 99 s.val (.int q i)).run Tryz.prog w = .ok (.pointer (some ⟨s.b, s.o + i.toNat * 3, none⟩)) w :=
  run_indexAt_sl w Tryz.underlying99 (fun w => (by kernel_rfl : (sizeOf 108).run Tryz.prog w = .ok 3 w)) s q i h0 h1
set_option maxRecDepth 100000 in
set_option maxHeartbeats 4000000 in
theorem is19_bad (w : World) (b bg : Nat) (own og : Nat → Prop) (E G : Em) (R : Emt w b own E) (RG : Gmt w bg og G) (he : E.err ≠ 0) (hg : G.err = E.err) (hS : Small E.now) (hl : E.evs.length ≤ 65536) (hp : E.pend.length ≤ 65536) :
    Calls Tryz.prog 17 #[.pointer (some ⟨b, 0, none⟩), .pointer (some ⟨bg, 0, none⟩)] w fun e w' => e = .returned (.bool true) ∧ Grow w w' := by
  have HE := Lib.hid (fun W (g : Grow w W) => err_any W b own E (R.grow g))
  have HNu := Lib.hid (fun W => num_any E.err W)
  have HEv := Lib.hid (fun W (g : Grow w W) => by have := eevents_any W b own E (R.grow g) (by omega); rw [if_pos he] at this; exact this)
  have HPe := Lib.hid (fun W (g : Grow w W) => by have := epending_any W b own E (R.grow g) (by omega); rw [if_pos he] at this; exact this)
  have hst : E.state = St0 := by unfold Em.state; rw [if_pos he]
  have HSt := Lib.hid (fun W (g : Grow w W) => by have := estate_any W b own E (R.grow g) hS; rw [hst] at this; exact this)
  have HSa := Lib.hid (fun W (V' : SV) (r : RepSt W V' St0) => states_same St0 V' SV.zero W r (repSt_zero W) ⟨by simp [St0], fun _ _ => by simp [St0]⟩)
  have h0 : (fun (_ : Nat) => (0 : Int)) = St0.num := rfl
  obtain ⟨V, sd, se, sp, hr, ho⟩ := RG
  obtain ⟨_, _, _, h40⟩ := hr.cells
  have hlt := hr.host.lt
  rw [hg] at h40
  have hb : (E.err != 0) = true := by simpa using he
  generalize E.err = n at *
  clear hr ho R hst he hS hg
  go_enter Tryz.func17, Tryz.ntmps17
  go_wp2_with fail
  refine wp_region_grow (by kernel_rfl) (by kernel_rfl) ?_; (repeat (go_big_quiet_step ( (first | (go_at_call 37; first | refine Calls.grow2 (HE.out _ grI) | refine Calls.grow (HE.out _ grI)) | (go_at_call 52; first | refine Calls.grow2 ((HNu.out _).mono fun _ _ h => ⟨h.1, h.2 ▸ Grow.refl _⟩) | refine Calls.grow ((HNu.out _).mono fun _ _ h => ⟨h.1, h.2 ▸ Grow.refl _⟩))) ))); refine wpQuiet_nil ?_; rintro _ ⟨nx, rfl⟩
  go_wp2_with (first | (go_at_call 47; refine (HEv.out _ grI).mono ?_; rintro e' w' ⟨s1, rfl, hR1, n1, rfl⟩; have hn1 := hR1.len; clear hR1) | (go_at_call 54; refine (HPe.out _ grI).mono ?_; rintro e' w' ⟨s2, rfl, hR2, n2, rfl⟩; have hn2 := hR2.len; clear hR2) | (go_at_call 38; refine (HSt.out _ grI).mono ?_; rintro e' w' ⟨V', rfl, hR', _, n3, rfl⟩; (try simp only [drew_plus] at hR'); (try simp only [plus_plus] at hR'); have HR' := Lib.hid hR'; clear hR') | (go_at_call 49; refine (HSa.out _ V' (HR'.out.grow grI)).mono ?_; rintro e' w' ⟨rfl, n4, rfl⟩))
  go_ret
  exact ⟨rfl, grI⟩
set_option maxRecDepth 100000 in
set_option maxHeartbeats 8000000 in
theorem is19_good (w : World) (b bg : Nat) (own og : Nat → Prop) (E : Em) (R : Emt w b own E) (RG : Gmt w bg og E) (he : E.err = 0) (hS : Small E.now) (hl : E.evs.length ≤ 65536) (hp : E.pend.length ≤ 65536) :
    Calls Tryz.prog 17 #[.pointer (some ⟨b, 0, none⟩), .pointer (some ⟨bg, 0, none⟩)] w fun e w' => e = .returned (.bool true) ∧ Grow w w' := by
  have hne : ¬ E.err ≠ 0 := by rw [he]; simp
  have HE := Lib.hid (fun W (g : Grow w W) => by have := err_any W b own E (R.grow g); rw [he] at this; exact this)
  have HNu := Lib.hid (fun W => num_any 0 W)
  have HEv := Lib.hid (fun W (g : Grow w W) => by have := eevents_any W b own E (R.grow g) (by omega); rw [if_neg hne] at this; exact this)
  have HPe := Lib.hid (fun W (g : Grow w W) => by have := epending_any W b own E (R.grow g) (by omega); rw [if_neg hne] at this; exact this)
  have hst : E.state = E.now := by unfold Em.state; rw [if_neg hne]
  have HSt := Lib.hid (fun W (g : Grow w W) => by have := estate_any W b own E (R.grow g) hS; rw [hst] at this; exact this)
  obtain ⟨V, sd, se, sp, hr, ho⟩ := RG
  have HSa := Lib.hid (fun W (g : Grow w W) (V' : SV) (r : RepSt W V' E.now) => states_same E.now V' V W r (hr.host.rep.grow g) hS)
  have HEs := Lib.hid (fun W (g : Grow w W) (s : Sl) (r : Rows' W s 6 E.evs) => events_same W s se E.evs r (hr.evs.grow g) (by omega))
  have HPr := Lib.hid hr.pend
  obtain ⟨_, h38, h39, h40⟩ := hr.cells
  have hbl := hr.host.blk
  have hlt := hr.host.lt
  have hpn := hr.pend.len
  have hen := hr.evs.len
  rw [he] at h40
  clear hr ho R hst hS hne
  rw [errV_0] at HE HNu
  go_enter Tryz.func17, Tryz.ntmps17
  go_wp2_with fail
  refine wp_region_grow (by kernel_rfl) (by kernel_rfl) ?_; (repeat (go_big_quiet_step ( (first | (go_at_call 37; first | refine Calls.grow2 (HE.out _ grI) | refine Calls.grow (HE.out _ grI)) | (go_at_call 52; first | refine Calls.grow2 ((HNu.out _).mono fun _ _ h => ⟨h.1, h.2 ▸ Grow.refl _⟩) | refine Calls.grow ((HNu.out _).mono fun _ _ h => ⟨h.1, h.2 ▸ Grow.refl _⟩))) ))); refine wpQuiet_nil ?_; rintro _ ⟨nx, rfl⟩
  go_wp2_with (go_at_call 54; refine (HPe.out _ grI).mono ?_; rintro e' w' ⟨s2, rfl, hR2, n2, rfl⟩; (try simp only [drew_plus] at hR2); (try simp only [plus_plus] at hR2); have hn2 := hR2.len; have HR2 := Lib.hid hR2; clear hR2)
  go_region_held3 (fun W => W.blk bg = hoA V E.now.num (gR sd se sp E.err) ∧ W.cell? ⟨bg, 38, none⟩ = some se.val ∧ W.cell? ⟨bg, 39, none⟩ = some sp.val) (simp [go_sem, *]) (first | (go_at_call 47; refine (HEv.out _ grI).mono ?_; rintro e' w' ⟨s1, rfl, hR1, n1, rfl⟩; (try simp only [drew_plus] at hR1); (try simp only [plus_plus] at hR1); have hn1 := hR1.len; have HR1 := Lib.hid hR1; clear hR1) | (go_at_call 38; refine (HSt.out _ grI).mono ?_; rintro e' w' ⟨V', rfl, hR', _, n3, rfl⟩; (try simp only [drew_plus] at hR'); (try simp only [plus_plus] at hR'); have HR' := Lib.hid hR'; clear hR') | (go_at_call 66; refine (HEs.out _ grI s1 (HR1.out.grow grI)).mono ?_; rintro e' w' ⟨rfl, n4, rfl⟩) | (go_at_call 49; refine (HSa.out _ grI V' (HR'.out.grow grI)).mono ?_; rintro e' w' ⟨rfl, n5, rfl⟩))
  all_goals
    obtain ⟨W2, hW2⟩ : ∃ W2, W2 = w.plus (nx.and n2) := ⟨_, rfl⟩
    have r2 : Rows' W2 s2 3 E.pend := by rw [hW2]; exact HR2.out
    have rp : Rows' W2 sp 3 E.pend := by rw [hW2]; exact HPr.out.grow grI
    have c39 : W2.cell? ⟨bg, 39, none⟩ = some sp.val := by rw [hW2, plus_cell_lt _ _ _ _ hlt]; exact h39
    have lt2 : bg < W2.heap.size := by rw [hW2, plus_size]; omega
    have gw : Grow w W2 := by rw [hW2]; exact grI
    have gl : Grow W2 (w.plus (((((nx.and n2).and n1.late).and n4).and n3).and n5)) := by rw [hW2]; exact grI
    have HW := Lib.hid (And.intro r2 (And.intro rp (And.intro gw gl)))
    clear hW2 r2 rp gw gl HR2 HPr HR1 HR'
    go_wp2_with fail
    go_loopw [66] (fun i wr => ∃ k : Nat, k ≤ E.pend.length ∧ i = .int .i64 k ∧ Grow W2 wr) (fun i _ => E.pend.length - (intOf i).toNat)
    case atStart => exact ⟨0, by omega, rfl, HW.out.2.2.2⟩
    case round =>
      obtain ⟨k, hk, rfl, x, rfl⟩ := hrel
      by_cases hlt2 : k < E.pend.length
      · obtain ⟨qb, qw, qsz, qsub, qc⟩ := HW.out.1.at (by omega) k hlt2
        obtain ⟨pb, pw, psz, psub, pc⟩ := HW.out.2.1.at (by omega) k hlt2
        clear qc pc
        generalize rowAt E.pend k = row at *
        go_wp2_with fail
        refine wp_region_grow (by kernel_rfl) (by kernel_rfl) ?_; (repeat (go_big_quiet_step ( fail ))); refine wpQuiet_nil ?_; rintro _ ⟨nx, rfl⟩
        go_wp2_with fail
        go_roundw
        case rel => exact ⟨k + 1, by omega, by go_num, grI⟩
        case measure => simp [intOf]; omega
      · go_wp2_with fail
        go_ret
        exact ⟨rfl, HW.out.2.2.1.trans grI⟩
end Go.Proofs.YtnjclibennadcaaGreatDoor
namespace Go.Proofs.YtnjclibennadcaaGreatDoor
open Go Go.RowKit Go.Shelf

/-! ### An emitter with an error -/
theorem run_bad (w : World) (b : Nat) (own : Nat → Prop) (E : Em) (R : Emt w b own E) (he : E.err ≠ 0) (fuel : Int) :
    Calls Tryz.prog 15 #[.pointer (some ⟨b, 0, none⟩), .int .i64 fuel] w fun r w' => r = .returned (.int .i64 0) ∧ Grow w w' := by
  have HE := Lib.hid (fun W (g : Grow w W) => by have := err_any W b own E (R.grow g); rw [errV_is he] at this; exact this)
  clear R he
  go_enter Tryz.func15, Tryz.ntmps15
  go_wp2_with fail
  go_loopw [5] (fun i wr => i = .int .i64 0 ∧ Grow w wr) (fun _ _ => 0)
  case atStart => exact ⟨rfl, grI⟩
  case round =>
    obtain ⟨rfl, x, rfl⟩ := hrel
    go_wp2_with (go_at_call 37; refine (HE.out _ grI).mono ?_; rintro e' w' ⟨rfl, nx, rfl⟩)
    go_ret
    exact ⟨rfl, grI⟩
theorem drun_bad (w : World) (b : Nat) (own : Nat → Prop) (E : Em) (R : Gmt w b own E) (he : E.err ≠ 0) (fuel : Int) :
    Calls Tryz.prog 16 #[.pointer (some ⟨b, 0, none⟩), .int .i64 fuel] w fun r w' => r = .returned (.int .i64 0) ∧ Grow w w' := by
  have HRo := Lib.hid (fun W (g : Grow w W) => dround_quiet W b own E (R.grow g) (.inl he))
  obtain ⟨V, sd, se, sp, hr, ho⟩ := R
  obtain ⟨_, _, _, h40⟩ := hr.cells
  have hlt := hr.host.lt
  have hb1 : (E.err != 0) = true := by simpa using he
  have hb2 : (E.err == 0) = false := by simpa using he
  clear hr ho he
  go_enter Tryz.func16, Tryz.ntmps16
  go_wp2_with fail
  go_loopw [5] (fun i wr => i = .int .i64 0 ∧ Grow w wr) (fun _ _ => 0)
  case atStart => exact ⟨rfl, grI⟩
  case round =>
    obtain ⟨rfl, x, rfl⟩ := hrel
    by_cases hf : (0 : Int) < fuel
    · go_wp2_with (go_at_call 63; refine (HRo.out _ grI).mono ?_; rintro e' w' ⟨rfl, nx, rfl⟩)
      go_ret
      exact ⟨rfl, grI⟩
    · have hf2 : ((0 : Int) < fuel) = False := by simp; omega
      clear hf
      go_wp2_with fail
      go_ret
      exact ⟨rfl, grI⟩
set_option maxRecDepth 100000 in
set_option maxHeartbeats 8000000 in
theorem runs_law (T8 : Table08) (O : Of17) (S : St) (V : SV) (w : World) (R : RepSt w V S) (GL : GlobE w (fun k => w.heap.size ≤ k)) (HA : ∀ W, Grow w W → Calls Tryz.prog 11 #[] W fun e w' => e = .returned (.bool true) ∧ Grow W w') (fuel : Int) :
    Calls Tryz.prog 3 #[.agg (stA V S.num), .int .i64 fuel] w fun e w' => e = .returned (.bool true) ∧ Grow w w' := by
  have HAl := Lib.hid HA
  have HLo := Lib.hid (fun W (g : Grow w W) => long_any S V 40 (by omega) W (R.grow g))
  cases hl : longB S 40 with
  | true =>
    rw [hl] at HLo
    clear R GL hl HA O T8
    go_enter Tryz.func3, Tryz.ntmps3
    go_wp2_with (first | (go_at_call 11; refine (HAl.out _ grI).mono ?_; rintro e' w' ⟨rfl, nx, rfl⟩) | (go_at_call 12; refine (HLo.out _ grI).mono ?_; rintro e' w' ⟨rfl, nx, rfl⟩))
    go_ret
    exact ⟨rfl, grI⟩
  | false =>
  have hsm := long_smallN hl
  have hSm := hsm.small (show 50 ≤ 1048576 by omega)
  rw [hl] at HLo
  have HNew := Lib.hid (fun W (g : Grow w W) => new_any S V W (R.grow g) hSm (GL.base.grow g) .nil [] (Ints.nil W) (by simp))
  have HGNew := Lib.hid (fun W (g : Grow w W) => gnew_any S V W (R.grow g) hSm)
  have HGL := Lib.hid GL
  have HR := Lib.hid R
  have HSm := Lib.hid hSm
  have HSN := Lib.hid hsm
  have HT8 := Lib.hid T8
  have HO17 := Lib.hid O
  have hnil : (Sl.nil).val = Value.slice none 0 0 := rfl
  rw [hnil] at HNew
  clear hl HA R GL hSm hsm T8 O hnil
  go_enter Tryz.func3, Tryz.ntmps3
  go_wp2_with (first | (go_at_call 11; refine (HAl.out _ grI).mono ?_; rintro e' w' ⟨rfl, nA, rfl⟩) | (go_at_call 12; refine (HLo.out _ grI).mono ?_; rintro e' w' ⟨rfl, nL, rfl⟩))
  go_region_held3 (fun W => W.blk w.heap.size = stA V S.num) (simp [go_sem, *]) (first | (go_at_call 13; refine (HNew.out _ grI).mono ?_; rintro e' w' ⟨b, own, rfl, hem, hown, nN, rfl⟩; have HEM := Lib.hid hem; have HOW := Lib.hid hown; clear hem hown) | (go_at_call 14; refine (HGNew.out _ grI).mono ?_; rintro e' w' ⟨bg, og, rfl, hgm, hog, nG, rfl⟩; have HGM := Lib.hid hgm; have HOG := Lib.hid hog; clear hgm hog))
  have hem := HEM.out
  (try simp only [drew_plus] at hem); (try simp only [plus_plus] at hem)
  have hgm := HGM.out
  (try simp only [drew_plus] at hgm); (try simp only [plus_plus] at hgm)
  have hown := HOW.out
  have hog := HOG.out
  simp only [drew_plus, plus_size, alloc_size', Ext.and, Ext.late, Array.size_append, show ∀ (W : World), W.drew.heap.size = W.heap.size from fun _ => rfl] at hown hog
  have hG0 : Grow w ((w.alloc (.cells (stA V S.num) 29)).plus (((nA.and nL).and nN.late).and nG)) := grI
  have hem1 : Emt ((w.alloc (.cells (stA V S.num) 29)).plus (((nA.and nL).and nN.late).and nG)) b own (Em.new S []) := hem.grow grI
  have hdj : ∀ k, own k → ¬ og k := fun k h1 h2 => by have := hown k h1; have := hog k h2; omega
  have hownw : ∀ k, own k → w.heap.size ≤ k := fun k h1 => by have := hown k h1; omega
  have hogw : ∀ k, og k → w.heap.size ≤ k := fun k h1 => by have := hog k h1; omega
  have hglU := HGL.out.kept (own' := fun k => w.heap.size ≤ k) (hG0.kept _) (fun j hj => .inl hj)
  clear hem hown hog HEM HGM HOW HOG HAl HLo HNew HGNew
  generalize (w.alloc (.cells (stA V S.num) 29)).plus (((nA.and nL).and nN.late).and nG) = W1 at *
  have hogl := hgm.lt
  have HEM := Lib.hid hem1
  have HGM := Lib.hid hgm
  have HDJ := Lib.hid hdj
  have HOW := Lib.hid hownw
  have HOG := Lib.hid hogw
  have HGU := Lib.hid hglU
  have HG0 := Lib.hid hG0
  have HOL := Lib.hid hogl
  clear hem1 hgm hdj hownw hogw hglU hG0 hogl
  by_cases hck : checkN S = 0
  · have hRt : Right S := (checkN_zero S).1 hck
    have hc := new_ck hRt HR.out.objs.wid
    have hI0 := RunI.of hc ((S.list 8).length + 2) (Nat.le_refl _)
    have R1 := run_good hc ((S.list 8).length + 2) (Nat.le_refl _) fuel
    have h8 : (S.list 8).length ≤ 50 := HSN.out.list 8 (by omega)
    rw [new_is hck] at HEM HGM
    have HRun := Lib.hid (fun W (g : Grow W1 W) => runs_any W b own _ (HEM.out.grow g) ((HGU.out.kept (own' := own) (Kept.refl _ _) (fun j hj => .inl (HOW.out j hj))).grow g) _ hI0 (by omega) fuel)
    have HGRun := Lib.hid (fun W og2 (r : Gmt W bg og2 ⟨S, [], [], [], 0⟩) (gl : GlobE W og2) => drun_any HT8.out HO17.out W bg og2 _ r gl _ hI0 (.inr hc) (by omega) fuel)
    have he1 : (⟨S, [], [], [], 0⟩ : Em).evs.length + 14 * ((⟨S, [], [], [], 0⟩ : Em).now.list 8).length = 14 * (S.list 8).length := by simp
    have he2 : (⟨S, [], [], [], 0⟩ : Em).pend.length + 2 * ((⟨S, [], [], [], 0⟩ : Em).now.list 8).length = 2 * (S.list 8).length := by simp
    have hev := R1.evs
    have hpe := R1.pend
    rw [he1] at hev
    rw [he2] at hpe
    have HIs := Lib.hid (fun W own2 og2 (r : Emt W b own2 (runG ((S.list 8).length + 2) ⟨S, [], [], [], 0⟩ fuel 0).1) (rg : Gmt W bg og2 (runG ((S.list 8).length + 2) ⟨S, [], [], [], 0⟩ fuel 0).1) => is19_good W b bg own2 og2 _ r rg R1.err (R1.right.smallN.small (show 400 ≤ 1048576 by omega)) (by omega) (by omega))
    generalize runG ((S.list 8).length + 2) ⟨S, [], [], [], 0⟩ fuel 0 = T at *
    clear hck hRt hc hI0 R1 h8 he1 he2 hev hpe
    go_wp2_with fail
    refine (HRun.out _ grI).mono ?_
    rintro e' w2 ⟨rfl, hE⟩
    obtain ⟨own2, T2⟩ := (Turn.first HEM.out).step grI hE
    have k2 : Kept (fun k => w.heap.size ≤ k) W1 w2 := T2.kept.mono (fun k _ h => HOW.out k h)
    have hg2 : Gmt w2 bg og ⟨S, [], [], [], 0⟩ := HGM.out.kept T2.kept (fun k h1 h2 => HDJ.out k h2 h1)
    have gl2 : GlobE w2 og := HGU.out.kept k2 (fun j hj => .inl (HOG.out j hj))
    have HG2 := Lib.hid hg2
    have HL2 := Lib.hid gl2
    have HT2 := Lib.hid T2
    clear hE k2 hg2 gl2 T2
    go_wp2_with fail
    refine (HGRun.out _ og (HG2.out.grow grI) (HL2.out.grow grI)).mono ?_
    rintro e' w3 ⟨rfl, hE⟩
    obtain ⟨og3, T3⟩ := (TurnG.first HG2.out).step grI hE
    have hm3 : Emt w3 b own2 T.1 := HT2.out.em.kept T3.kept (fun k h1 h2 => by
      rcases HT2.out.own k h1 with h | h
      · exact HDJ.out k h h2
      · have := HOL.out k h2; omega)
    have hG3 : Grow w w3 := T3.kept.grow_of (HT2.out.kept.grow_of HG0.out (fun k hk => HOW.out k hk)) (fun k hk => HOG.out k hk)
    have HM3 := Lib.hid hm3
    have HT3 := Lib.hid T3
    have HG3 := Lib.hid hG3
    clear hE hm3 T3 hG3
    go_wp2_with (go_at_call 17; refine (HIs.out _ own2 og3 (HM3.out.grow grI) (HT3.out.em.grow grI)).mono ?_; rintro e' w' ⟨rfl, nI, rfl⟩)
    go_ret
    exact ⟨rfl, HG3.out.trans grI⟩
  · have he : (Em.new S []).err ≠ 0 := by rw [new_nil]; exact hck
    have hnow : (Em.new S []).now = S := by rw [new_nil]
    have hevs : (Em.new S []).evs.length ≤ 65536 := by rw [new_nil]; simp
    have hpen : (Em.new S []).pend.length ≤ 65536 := by rw [new_nil]; simp
    have HRun := Lib.hid (fun W (g : Grow W1 W) => run_bad W b own _ (HEM.out.grow g) he fuel)
    have HGRun := Lib.hid (fun W (g : Grow W1 W) => drun_bad W bg og _ (HGM.out.grow g) he fuel)
    have HIs := Lib.hid (fun W (g : Grow W1 W) => is19_bad W b bg own og _ _ (HEM.out.grow g) (HGM.out.grow g) he rfl (by rw [hnow]; exact HSm.out) hevs hpen)
    clear he hnow hevs hpen hck
    go_wp2_with (first | (go_at_call 15; refine (HRun.out _ grI).mono ?_; rintro e' w' ⟨rfl, nA, rfl⟩) | (go_at_call 16; refine (HGRun.out _ grI).mono ?_; rintro e' w' ⟨rfl, nB, rfl⟩) | (go_at_call 17; refine (HIs.out _ grI).mono ?_; rintro e' w' ⟨rfl, nI, rfl⟩))
    go_ret
    exact ⟨rfl, HG0.out.trans grI⟩
end Go.Proofs.YtnjclibennadcaaGreatDoor
namespace Go.Proofs.YtnjclibennadcaaGreatDoor
open Go Go.RowKit Go.ChangeShapes Go.WideShapes Go.ChangeAt

/-- The heap that the program's own run leaves meets the condition. -/
theorem door_metCheckRuns (os : Os) (args : Array Value) : laidMetH Tryz.prog laid4 ((World.doorLaid Tryz.prog 400 os).forCall (fun _ _ => 0) ⟨#[], args, []⟩).memory :=
  laidMetH_of_parts3 (fuel := 8) (laidMet_of_run' 8 (by kernel_rfl) (by kernel_rfl)) (by kernel_rfl) (by kernel_rfl)

/-- The empty state. -/
def emptyStCheckRuns : Value := .agg ((List.replicate 12 (Value.slice none 0 0) ++ List.replicate 25 (Value.int .i64 0)).toArray)

set_option maxRecDepth 100000 in
theorem checkRuns_lifted (os : Os) (started : os.Started) (H : Type) (enc : TypeId × Value → H) :
    ReturnsInHanded {} Tryz.checked os 3 .any (fun w args => (Rows.checkRunsSpec.pre enc Tryz.prog Tryz.f3 [] false w args ∧ laidMetH Tryz.prog laid4 w) ∧ sizedMet enc Tryz.prog Tryz.f3 (OpenSpec.ofChange Rows.checkRunsSpec) false w args)
      (Rows.checkRunsSpec.post enc Tryz.prog Tryz.f3 false true false false) := by
  refine returnsInHanded_of_change_and (C := Tryz.checked) (X := fun w _ => laidMetH Tryz.prog laid4 w) (fun _ _ _ hh h => h.of_heap hh) own_Tryz started (by kernel_rfl) Tryz.func3
    (ChangeSpec.witness_shaped (enc := enc) (C := Tryz.checked) (os := os) (X := fun w _ => laidMetH Tryz.prog laid4 w) false (World.doorLaid Tryz.prog 400 os) #[emptyStCheckRuns, .int .i64 0] 8 rfl (World.shaped_of_RefB (by kernel_rfl) (by kernel_rfl)) (by kernel_rfl) (by kernel_rfl) (by kernel_rfl) (door_metCheckRuns os _)) ?_
  intro W base args ds gs before hval0 hW _ _ hL _
  have hval : ∀ (j : Nat) t v, Tryz.f3.params[j]? = some t → args[j]? = some v → Value.okWide Tryz.prog W .any base t v := hval0
  have hW' := hW
  obtain ⟨p, q, hA0, hV, rfl, _, _⟩ := hW
  have hA : DataW.TrodAll enc Tryz.prog W 0 (fun _ => true) true Tryz.f3.params.toList args.toList ds p := hA0
  rw [Tryz.params3] at hA hval
  obtain ⟨v0, v1, d0, d1, p0, p1, rfl, rfl, rfl, h0, h1⟩ := trodAll_two hA
  obtain ⟨rfl, rfl⟩ := trodVars_none hV
  obtain ⟨V0, S0, rfl, R0⟩ := open_State (hval 0 29 v0 rfl rfl) h0
  obtain ⟨n1, rfl, _⟩ := open_int Tryz.underlying3 (hval 1 3 v1 rfl rfl) h1
  refine (runs_law table08 (of17_any table08) S0 V0 W R0 (globE_of_laid hL) (fun W' g => alive20_any W' (globE_grow (globE_of_laid hL) g)) n1).mono fun e W' ⟨he, hg⟩ => ?_
  subst he
  exact ⟨_, rfl, law_post laidOut_Tryz hW' rfl (by kernel_rfl) Tryz.underlying4 (by kernel_rfl) rfl rfl rfl hg.below⟩

theorem checkRuns_plain : Rows.CheckRunsSaid :=
  OpenClaim.holds_of_wide 3 Tryz.f3 rfl rfl rfl rfl rfl rfl rfl ⟨rfl, rfl, rfl, rfl, rfl⟩ rfl rfl rfl rfl rfl (by kernel_rfl) Tryz.func3 (by kernel_rfl)
    (of_decide_eq_true (by kernel_rfl)) (by unfold Func.isWrapper; first | (rw [if_pos (by decide +kernel)]; kernel_rfl) | (rw [if_neg (by decide +kernel)]; exact ⟨rfl, rfl⟩))
    (fun os started H enc _ => checkRuns_lifted os started H enc)
#print axioms checkRuns_plain
end Go.Proofs.YtnjclibennadcaaGreatDoor
namespace Go.Proofs.YtnjclibennadcaaGreatDoor
open Go

theorem checkRuns_holds : Rows.CheckRunsCardSaid :=
  Claim7.holds_tied_plain_at .later [] [.data, .data, .widerDeep, .data] true (true, "1b6453b7da38b0824abd26a74255809f06dc9792d477250d46d78bb8069a280b") true
    checkRuns_plain (fun _ h => by cases h) (by kernel_rfl) (fun _ h => by cases h) checkRuns_row_tie rfl ⟨rfl, rfl⟩ (by kernel_rfl) rfl
    (fun f fn hf hfn => by
      obtain rfl : f = 3 := Option.some.inj (hf.symm.trans (by kernel_rfl))
      obtain rfl : fn = Tryz.f3 := (Option.some.inj (Tryz.func3.symm.trans hfn)).symm
      exact ⟨by kernel_rfl, fun j t ht => by
        rw [Tryz.params3] at ht
        have hm : t ∈ [29, 3] := by simpa using Array.mem_of_getElem? ht
        have hall : ([29, 3].all fun u => !Tryz.prog.wantsStandIn u) = true := by kernel_rfl
        exact (show Tryz.prog.wantsStandIn t = false by simpa using List.all_eq_true.1 hall t hm)⟩)
    (by kernel_rfl)
#print axioms checkRuns_holds
end Go.Proofs.YtnjclibennadcaaGreatDoor
