/-
  The document's end of a fight.
  Who attacks, who blocks, all hits: nothing, in a wrong state; the program's and the document's.
-/
import Derived.Test.YtnjdkkgkaafdbaaGreatDoorMRc1
import Derived.Test.YtnjdkkgkaafdbaaGreatDoorMCb4
import Derived.Test.YtnjdkkgkaafdbaaGreatDoorMF3
namespace Go.Proofs.YtnjdkkgkaafdbaaGreatDoor
open Go Go.RowKit Go.Shelf

set_option maxRecDepth 100000 in
set_option maxHeartbeats 4000000 in
theorem end24_good (w : World) (b : Nat) (own : Nat → Prop) (E : Em) (R : Gmt w b own E) (S : St) (hS : Right S) (m : Nat) (F : Fi S m E) (hm : m + 2 * (S.list 8).length < 65536) :
    Calls Tryz.prog 21 #[.pointer (some ⟨b, 0, none⟩)] w fun r w' => r = .returned (.tuple #[]) ∧ DPost w b own (E.ends (S.list 8)) w' := by
  have hown := R.lt
  have hl8 : (S.list 8).length ≤ 400 := Nat.le_trans (hS.zon.len_le (z := 8) (by decide)) hS.many
  have HR := Lib.hid R
  have HF := Lib.hid F
  have HOL := Lib.hid hown
  have HRt := Lib.hid hS
  obtain ⟨V, sd, se, sp, hr, ho⟩ := R
  obtain ⟨_, _, _, h40⟩ := hr.cells
  rw [F.err] at h40
  have hlt := hr.host.lt
  have h9 : w.cell? ⟨b, 9, none⟩ = some (V.list 8).val := by rw [cell_of_blk hr.host.free hr.host.blk, show 9 = 1 + 8 from rfl]; exact hoA_list _ _ _ 8 (by decide)
  have hI := hr.host.rep.list 8 (by decide)
  rw [F.list] at hI
  have HI := Lib.hid hI
  have hI8 := hI.len
  clear hr ho F hown hS hI
  go_enter Tryz.func21, Tryz.ntmps21
  go_wp2_with (at_builtin; refine wpList_made rfl _ _ 23 rfl 3 Tryz.t3 (.int .i64 0) 1 8 Tryz.underlying23 (by kernel_rfl) (by kernel_rfl) (by kernel_rfl) (by kernel_rfl) (by omega) rfl w (noSl w.heap.size) (V.list 8) [] ((S.list 8).map I) rfl rfl (Made.empty 1 (Nat.le_refl _) (by simp only [alloc_size']; omega)) grI (HI.out.grow grI).cells (by simp) (flat_one _) (by rw [noSl_n]; omega) ?_; intro s9 y c1 _ c3 _; have C := Lib.hid c1; have hs9 : s9.n = (S.list 8).length := (by rw [c3, noSl_n]; omega); clear c1 c3)
  have HIs := Lib.hid C.out.cells.ints
  have HOs := Lib.hid (show ∀ j, s9.owns j → ¬ own j from fun j hj h => by have := (C.out.own j hj).1; have := HOL.out j h; omega)
  have HR1 := Lib.hid (HR.out.grow (w' := w.plus y) ⟨y, rfl⟩)
  clear C h40 h9 hlt
  go_loopw [18] (fun i wr => ∃ (k : Nat) (own2 : Nat → Prop), k ≤ (S.list 8).length ∧ i = .int .i64 k ∧ TurnG (w.plus y) b own (E.ends ((S.list 8).take k)) wr own2) (fun i _ => (S.list 8).length - (intOf i).toNat)
  case atStart => exact ⟨0, own, by omega, rfl, TurnG.first HR1.out⟩
  case round =>
    obtain ⟨k, own2, hk, rfl, hT⟩ := hrel
    have HT := Lib.hid hT
    clear hT
    by_cases hlt : k < (S.list 8).length
    · obtain ⟨hlb, hlc⟩ := (HIs.out.kept HT.out.kept (fun hl ho => HOs.out _ (owns_of HIs.out hl) ho)).at k hlt
      have HS := Lib.hid (ends_succ E (S.list 8) k hlt)
      have hFk := HF.out.ends HRt.out (by omega) k hk
      obtain ⟨o0, o1, o3, _⟩ := HRt.out.zon.ok 8 (by decide) (gt (S.list 8) k) (by rw [gt_eq _ _ hlt]; exact List.getElem_mem hlt)
      generalize gt (S.list 8) k = id at *
      obtain ⟨d, rfl⟩ := Int.eq_ofNat_of_zero_le o0
      rw [Int.toNat_natCast] at o3
      have hd : d < S.objs.length := by omega
      have e1 : gt (objBounds S.objs.length) (11 * 2) = 0 ∧ gt (objBounds S.objs.length) (11 * 2 + 1) = 1 := ⟨rfl, rfl⟩
      have hF2 : Fi S (m + 2 * k + 1) ((E.ends ((S.list 8).take k)).setObj d 11 0) := (hFk.set (by omega) d 11 0 hd o3 (by omega) (by omega) (by omega)).1
      have HSet := Lib.hid (show ∀ W, Grow wr W → Calls Tryz.prog 50 #[.pointer (some ⟨b, 0, none⟩), .int .i64 (d : Int), .int .i64 11, .int .i64 0] W fun r w' => r = .returned (.tuple #[]) ∧ DPost W b own2 ((E.ends ((S.list 8).take k)).setObj d 11 0) w' from fun W g => gset_any W b own2 _ (HT.out.em.grow g) hFk.small (fun _ => by have := hFk.evs; omega) d 11 0 (by rw [hFk.len]; exact hd) (by decide) (by decide) (by omega))
      have HSet2 := Lib.hid (show ∀ W own3, Gmt W b own3 ((E.ends ((S.list 8).take k)).setObj d 11 0) → Calls Tryz.prog 50 #[.pointer (some ⟨b, 0, none⟩), .int .i64 (d : Int), .int .i64 12, .int .i64 0] W fun r w' => r = .returned (.tuple #[]) ∧ DPost W b own3 (((E.ends ((S.list 8).take k)).setObj d 11 0).setObj d 12 0) w' from fun W own3 r => gset_any W b own3 _ r hF2.small (fun _ => by have := hF2.evs; omega) d 12 0 (by rw [hF2.len]; exact hd) (by decide) (by decide) (by omega))
      clear hFk hF2 o0 o1 o3 e1
      go_wp2_with fail
      refine (HSet.out _ grI).mono ?_
      rintro e' w3 ⟨rfl, hE⟩
      obtain ⟨own3, T3⟩ := HT.out.step grI hE
      have HT3 := Lib.hid T3
      clear hE T3 hlb hlc
      go_wp2_with fail
      refine (HSet2.out _ own3 (HT3.out.em.grow grI)).mono ?_
      rintro e' w4 ⟨rfl, hE⟩
      obtain ⟨own4, T4⟩ := HT3.out.step grI hE
      have HT4 := Lib.hid T4
      clear hE T4
      go_wp2_with fail
      go_roundw
      case rel => exact ⟨k + 1, own4, by omega, by go_num, by rw [HS.out]; exact HT4.out⟩
      case measure => simp [intOf]; omega
    · have hke : k = (S.list 8).length := by omega
      subst hke
      go_wp2_with fail
      go_end0
      have h2 := HT.out
      rw [List.take_length] at h2
      exact ⟨rfl, (h2.post (w := w) ⟨y, rfl⟩).more grI⟩
/-- The document leaves at once where there is an error. -/
theorem end24_bad (w : World) (b : Nat) (own : Nat → Prop) (E : Em) (R : Gmt w b own E) (he : E.err ≠ 0) :
    Calls Tryz.prog 21 #[.pointer (some ⟨b, 0, none⟩)] w fun r w' => r = .returned (.tuple #[]) ∧ Grow w w' := by
  obtain ⟨V, sd, se, sp, hr, ho⟩ := R
  obtain ⟨_, _, _, h40⟩ := hr.cells
  have hlt := hr.host.lt
  have hb : (E.err != 0) = true := by simpa using he
  clear hr ho he
  go_enter Tryz.func21, Tryz.ntmps21
  go_wp2_with fail
  refine bodyPost_ret (results_none rfl _ _ _) rfl ?_
  exact ⟨rfl, grI⟩
theorem strike24_bad (w : World) (b : Nat) (own : Nat → Prop) (E : Em) (R : Gmt w b own E) (he : E.err ≠ 0) :
    Calls Tryz.prog 18 #[.pointer (some ⟨b, 0, none⟩)] w fun r w' => r = .returned (.tuple #[]) ∧ Grow w w' := by
  obtain ⟨V, sd, se, sp, hr, ho⟩ := R
  obtain ⟨_, _, _, h40⟩ := hr.cells
  have hlt := hr.host.lt
  have hb : (E.err != 0) = true := by simpa using he
  clear hr ho he
  go_enter Tryz.func18, Tryz.ntmps18
  go_wp2_with fail
  refine bodyPost_ret (results_none rfl _ _ _) rfl ?_
  exact ⟨rfl, grI⟩
end Go.Proofs.YtnjdkkgkaafdbaaGreatDoor
namespace Go.Proofs.YtnjdkkgkaafdbaaGreatDoor
open Go Go.RowKit Go.Shelf

/-- A wrong state in memory. -/
structure WS (S : St) (V : SV) (w : World) : Prop where
  rep : RepSt w V S
  small : Small S
  glob : Glob w
  bad : checkN S ≠ 0
theorem WS.grow {S : St} {V : SV} {w w' : World} (h : WS S V w) (g : Grow w w') : WS S V w' := ⟨h.rep.grow g, h.small, h.glob.grow g, h.bad⟩
theorem WS.check {S : St} {V : SV} {w : World} (h : WS S V w) : Calls Tryz.prog 32 #[.agg (stA V S.num)] w fun e w' => e = .returned (.iface 93 (.int .i64 (checkN S))) ∧ Grow w w' := by
  refine (check_any S V w h.rep h.small h.glob).mono ?_
  rintro e w' ⟨rfl, g⟩
  exact ⟨by rw [errV_is h.bad], g⟩
theorem noSl_ints (w : World) (b : Nat) : Ints w (noSl b) [] := ⟨rfl, Nat.le_refl _, fun i hi => by cases hi⟩
theorem noSl_rows (w : World) (b k : Nat) : Rows' w (noSl b) k [] := ⟨rfl, Nat.le_refl _, fun i hi => (by cases hi), fun i j hi => by cases hi⟩
set_option maxRecDepth 100000 in
theorem is_wrong (S : St) (V : SV) (w : World) (h : WS S V w) (id : Int) :
    Calls Tryz.prog 40 #[.agg (stA V S.num), .int .i64 id] w fun e w' => e = .returned (.bool false) ∧ Grow w w' := by
  have HC := Lib.hid (fun W (g : Grow w W) => (h.grow g).check)
  clear h
  go_enter Tryz.func40, Tryz.ntmps40
  go_wp2_with (go_at_call 32; refine (HC.out _ grI).mono ?_; rintro e' w' ⟨rfl, nx, rfl⟩)
  go_ret
  exact ⟨rfl, grI⟩
set_option maxRecDepth 100000 in
theorem attacks_wrong (S : St) (V : SV) (w : World) (h : WS S V w) (id : Int) :
    Calls Tryz.prog 39 #[.agg (stA V S.num), .int .i64 id] w fun e w' => e = .returned (.bool false) ∧ Grow w w' := by
  have HI := Lib.hid (fun W (g : Grow w W) => is_wrong S V W (h.grow g) id)
  clear h
  go_enter Tryz.func39, Tryz.ntmps39
  go_wp2_with (go_at_call 40; refine (HI.out _ grI).mono ?_; rintro e' w' ⟨rfl, nx, rfl⟩)
  go_ret
  exact ⟨rfl, grI⟩
set_option maxRecDepth 100000 in
theorem attackers_wrong (S : St) (V : SV) (w : World) (h : WS S V w) :
    Calls Tryz.prog 11 #[.agg (stA V S.num)] w fun e w' => ∃ s : Sl, e = .returned s.val ∧ Ints w' s [] ∧ Grow w w' := by
  have hL := (h.rep.list 8 (by decide)).len
  have hSL := h.small.list 8 (by decide)
  have HH := Lib.hid h
  clear h
  go_enter Tryz.func11, Tryz.ntmps11
  go_wp2_with fail
  go_loopw [3, 10] (fun v i wr => ∃ k : Nat, k ≤ (S.list 8).length ∧ i = .int .i64 k ∧ v = .slice none 0 0 ∧ Grow (w.alloc (.cells (stA V S.num) 29)) wr) (fun _ i _ => (S.list 8).length - (intOf i).toNat)
  case atStart => exact ⟨0, by omega, rfl, rfl, grI⟩
  case round =>
    obtain ⟨k, hk, rfl, rfl, hG⟩ := hrel
    obtain ⟨x, rfl⟩ := hG
    by_cases hlt : k < (S.list 8).length
    · obtain ⟨hlb, hlc⟩ := (HH.out.rep.list 8 (by decide)).at k hlt
      generalize gt (S.list 8) k = id at *
      have HA := Lib.hid (fun W (g : Grow w W) => attacks_wrong S V W (HH.out.grow g) id)
      go_wp2_with (go_at_call 39; refine (HA.out _ grI).mono ?_; rintro e' w' ⟨rfl, nx, rfl⟩)
      go_roundw
      case rel => exact ⟨k + 1, by omega, by go_num, rfl, grI⟩
      case measure => simp [intOf]; omega
    · go_wp2_with fail
      go_ret
      exact ⟨.nil, rfl, Ints.nil _, grI⟩
set_option maxRecDepth 100000 in
theorem hits_wrong (S : St) (V : SV) (w : World) (h : WS S V w) :
    Calls Tryz.prog 8 #[.agg (stA V S.num)] w fun e w' => ∃ s : Sl, e = .returned s.val ∧ Rows' w' s 3 [] ∧ Grow w w' := by
  have HC := Lib.hid (fun W (g : Grow w W) => (h.grow g).check)
  clear h
  go_enter Tryz.func8, Tryz.ntmps8
  go_wp2_with (go_at_call 32; refine (HC.out _ grI).mono ?_; rintro e' w' ⟨rfl, nx, rfl⟩)
  go_ret
  exact ⟨.nil, rfl, Rows'.nil _ _, grI⟩
set_option maxRecDepth 100000 in
theorem stops_wrong (S : St) (V : SV) (w : World) (h : WS S V w) (id a : Int) :
    Calls Tryz.prog 13 #[.agg (stA V S.num), .int .i64 id, .int .i64 a] w fun e w' => e = .returned (.bool false) ∧ Grow w w' := by
  have HI := Lib.hid (fun W (g : Grow w W) => is_wrong S V W (h.grow g) id)
  clear h
  go_enter Tryz.func13, Tryz.ntmps13
  go_wp2_with fail
  refine wp_region_grow (by kernel_rfl) (by kernel_rfl) ?_; (repeat (go_big_quiet_step ( (first | (go_at_call 40; first | refine Calls.grow2 (HI.out _ grI) | refine Calls.grow (HI.out _ grI))) ))); refine wpQuiet_nil ?_; rintro _ ⟨nx, rfl⟩
  go_wp2_with fail
  go_ret
  exact ⟨rfl, grI⟩
/-! ### The document's -/
set_option maxRecDepth 100000 in
theorem att24_wrong (T8 : Table08) (S : St) (V : SV) (w : World) (h : WS S V w) :
    Calls Tryz.prog 12 #[.agg (stA V S.num)] w fun e w' => ∃ s : Sl, e = .returned s.val ∧ Ints w' s [] ∧ Grow w w' := by
  have hL := (h.rep.list 8 (by decide)).len
  have hSL := h.small.list 8 (by decide)
  have HT8 := Lib.hid T8
  have HH := Lib.hid h
  clear h T8
  go_enter Tryz.func12, Tryz.ntmps12
  go_wp2_with fail
  go_loopw [3, 11] (fun v i wr => ∃ k : Nat, k ≤ (S.list 8).length ∧ i = .int .i64 k ∧ v = (noSl (w.heap.size + 1)).val ∧ Grow (w.alloc (.cells (stA V S.num) 29)) wr) (fun _ i _ => (S.list 8).length - (intOf i).toNat)
  case atStart => exact ⟨0, by omega, rfl, rfl, grI⟩
  case round =>
    obtain ⟨k, hk, rfl, rfl, hG⟩ := hrel
    obtain ⟨x, rfl⟩ := hG
    by_cases hlt : k < (S.list 8).length
    · obtain ⟨hlb, hlc⟩ := (HH.out.rep.list 8 (by decide)).at k hlt
      generalize gt (S.list 8) k = id at *
      have HI := Lib.hid (fun W (g : Grow w W) => is24_bad HT8.out S V W (HH.out.grow g).rep HH.out.small HH.out.bad id)
      go_wp2_with (go_at_call 36; refine (HI.out _ grI).mono ?_; rintro e' w' ⟨rfl, nx, rfl⟩)
      go_roundw
      case rel => exact ⟨k + 1, by omega, by go_num, rfl, grI⟩
      case measure => simp [intOf]; omega
    · go_wp2_with fail
      go_ret
      exact ⟨_, rfl, noSl_ints _ _, grI⟩
set_option maxRecDepth 100000 in
theorem hits24_wrong (S : St) (V : SV) (w : World) (h : WS S V w) :
    Calls Tryz.prog 9 #[.agg (stA V S.num)] w fun e w' => ∃ s : Sl, e = .returned s.val ∧ Rows' w' s 3 [] ∧ Grow w w' := by
  have HC := Lib.hid (fun W (g : Grow w W) => refCheck_any S V W (h.grow g).rep h.small)
  have hb : (checkN S != 0) = true := by simpa using h.bad
  have hb2 : (checkN S == 0) = false := by simpa using h.bad
  generalize checkN S = n at *
  clear h
  go_enter Tryz.func9, Tryz.ntmps9
  go_wp2_with (go_at_call 28; refine (HC.out _ grI).mono ?_; rintro e' w' ⟨rfl, nx, rfl⟩)
  go_ret
  exact ⟨noSl _, rfl, noSl_rows _ _ _, grI⟩
set_option maxRecDepth 100000 in
theorem stops24_wrong (T8 : Table08) (S : St) (V : SV) (w : World) (h : WS S V w) (id a : Int) :
    Calls Tryz.prog 14 #[.agg (stA V S.num), .int .i64 id, .int .i64 a] w fun e w' => e = .returned (.bool false) ∧ Grow w w' := by
  have HI := Lib.hid (fun W (g : Grow w W) => is24_bad T8 S V W (h.grow g).rep h.small h.bad id)
  clear h T8
  go_enter Tryz.func14, Tryz.ntmps14
  go_wp2_with (go_at_call 36; refine (HI.out _ grI).mono ?_; rintro e' w' ⟨rfl, nx, rfl⟩)
  go_ret
  exact ⟨rfl, grI⟩
end Go.Proofs.YtnjdkkgkaafdbaaGreatDoor
