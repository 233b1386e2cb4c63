/-
  Acts of an emitter that is nil or has an error; Taken; long.
-/
import Derived.Test.YtnjclibennadcaaGreatDoorMEmBad
import Derived.Test.YtnjclibennadcaaGreatDoorMPutN
namespace Go.Proofs.YtnjclibennadcaaGreatDoor
open Go Go.RowKit Go.Shelf

@[go_sem] theorem run_store0_pends (w : World) (b o : Nat) (h : (w.cell? ⟨b, o, none⟩).isSome = true) (hf : w.frozen? ⟨b, o, none⟩ = false) : (stRow 90 (.pointer (some ⟨b, o, none⟩)) (.slice none 0 0)).run Tryz.prog w = .ok .skip (w.setCell ⟨b, o, none⟩ (.slice none 0 0)) :=
  run_stSl w b o 90 .nil (by kernel_rfl) h hf
/-- An emitter of which nothing is pending any more. -/
theorem RepE.noPend {w : World} {b : Nat} {own : Nat → Prop} {V : SV} {sd se sp : Sl} {E : Em} (h : RepE w b V sd se sp E) (ho : ∀ k, own k ↔ emOwn b V sd se sp k) {w' : World} (g : Grow (w.setRow b (hoA V E.now.num (emR sd se .nil E.err))) w') : EPost w b own { E with pend := [] } w' := by
  have k1 : Kept (fun k => k = b) w (w.setRow b (hoA V E.now.num (emR sd se .nil E.err))) := (Kept.refl _ _).setRow b _ (fun _ => rfl)
  have r : RepE (w.setRow b (hoA V E.now.num (emR sd se .nil E.err))) b V sd se .nil { E with pend := [] } := by
    refine ⟨⟨by rw [blk_setRow _ _ _ _ h.host.free, if_pos rfl], by rw [free_setRow]; exact h.host.free, h.host.rep.kept k1 (fun k hk e => h.host.apart (by have e : k = b := e; rw [← e]; exact hk)), h.host.apart, fun k hk => by rw [size_setRow]; exact h.host.in' k hk⟩, ?_, ?_, ?_, Rows'.nil _ _, Room.nil _ _, ?_, ?_, fun _ hk => hk.elim, h.apD, h.apE, fun h => h, fun k hk => ⟨(h.apVE k hk).1, fun h => h⟩, fun k hk => ⟨(h.apDE k hk).1, fun h => h⟩, fun _ _ h => h⟩
    · exact h.drs.kept k1 (fun hl e => h.apD (by have e : sd.b = b := e; rw [← e]; exact owns_of h.drs hl))
    · exact h.evs.kept k1 (fun hl e => h.apE (by have e : se.b = b := e; rw [← e]; exact owns_ofR h.evs hl))
    · exact h.evR.kept k1 (fun k hk e => h.apE (by have e : k = b := e; rw [← e]; exact hk))
    · exact fun k hk => by rw [size_setRow]; exact h.inD k hk
    · exact fun k hk => by rw [size_setRow]; exact h.inE k hk
  have k2 : Kept own w (w.setRow b (hoA V E.now.num (emR sd se .nil E.err))) := (Kept.refl _ _).setRow b _ (fun _ => (ho b).2 (Or.inl rfl))
  refine ⟨emOwn b V sd se .nil, ⟨V, sd, se, .nil, r.kept (g.kept (fun _ => False)) (fun _ _ h => h), fun _ => Iff.rfl⟩, k2.trans (o2 := fun _ => False) (g.kept _) (fun _ _ h => h.elim), fun k hk => Or.inl ((ho k).2 ?_)⟩
  rcases hk with h1 | h1 | h1 | h1 | h1
  · exact Or.inl h1
  · exact Or.inr (Or.inl h1)
  · exact Or.inr (Or.inr (Or.inl h1))
  · exact Or.inr (Or.inr (Or.inr (Or.inl h1)))
  · exact h1.elim
theorem taken_nil (w : World) : Calls Tryz.prog 106 #[.pointer none] w fun e w' => e = .returned (.slice none 0 0) ∧ Grow w w' := by
  have HP := Lib.hid (fun W (g : Grow w W) => epend_bad W (.pointer none) 4 (by decide) ((errsAt_nil w).grow g))
  go_enter Tryz.func106, Tryz.ntmps106
  go_wp2_with (go_at_call 54; refine (HP.out _ grI).mono ?_; rintro e' w' ⟨rfl, nx, rfl⟩)
  go_ret
  exact ⟨rfl, grI⟩
set_option maxRecDepth 100000 in
theorem taken_err (w : World) (b : Nat) (own : Nat → Prop) (E : Em) (R : Emt w b own E) (he : E.err ≠ 0) :
    Calls Tryz.prog 106 #[.pointer (some ⟨b, 0, none⟩)] w fun e w' => e = .returned (.slice none 0 0) ∧ EPost w b own { E with pend := [] } w' := by
  have HP := Lib.hid (fun W (g : Grow w W) => epend_bad W (.pointer (some ⟨b, 0, none⟩)) E.err he ((errsAt_em R).grow g))
  obtain ⟨V, sd, se, sp, hr, ho⟩ := R
  have hH := hr.host
  have hcell := cell_of_blk (hH).free (hH).blk; have hfz := frozen_of_free (hH).free; have hset := setCell_of_blk (hH).free (hH).blk; have hblk := (hH).blk; have hfree := (hH).free; have hlt := (hH).lt; have hne1 : ¬ b = (w).heap.size := (by omega); have hne2 : ¬ (w).heap.size = b := (by omega)
  have hs := hset 39 Sl.nil.val
  rw [hoA_s39, show Sl.nil.val = Value.slice none 0 0 from rfl] at hs
  have hc : w.cell? ⟨b, 39, none⟩ = some sp.val := (cell_of_blk hr.host.free hr.host.blk 39).trans (hoA_39 _ _ _ _ _ _)
  have HR := Lib.hid hr
  have HO := Lib.hid ho
  clear hr ho hH hblk hset hcell he
  go_enter Tryz.func106, Tryz.ntmps106
  go_wp2_with (go_at_call 54; refine (HP.out _ grI).mono ?_; rintro e' w' ⟨rfl, nx, rfl⟩)
  go_ret
  exact ⟨rfl, HR.out.noPend HO.out grI⟩
set_option maxRecDepth 100000 in
set_option maxHeartbeats 2000000 in
theorem do19_bad (w : World) (m : Value) (n : Int) (hn : n ≠ 0) (H : ErrsAt w m n) (k a b c : Int) (hk : (k == 11) = false) :
    Calls Tryz.prog 46 #[m, .agg (cellsOf [k, a, b, c])] w fun e w' => e = .returned (.int .i64 0) ∧ Grow w w' := by
  have H0 := Lib.hid (fun W (g : Grow w W) => eset_bad W m n hn (H.grow g))
  have H1 := Lib.hid (fun W (g : Grow w W) => eplayer_bad W m n hn (H.grow g))
  have H2 := Lib.hid (fun W (g : Grow w W) => egame_bad W m n hn (H.grow g))
  have H3 := Lib.hid (fun W (g : Grow w W) => eput_bad W m n hn (H.grow g))
  have H4 := Lib.hid (fun W (g : Grow w W) => emake_bad W m n hn (H.grow g))
  have H5 := Lib.hid (fun W (g : Grow w W) => elife_bad W m n hn (H.grow g))
  have H6 := Lib.hid (fun W (g : Grow w W) => emana_bad W m n hn (H.grow g))
  have H7 := Lib.hid (fun W (g : Grow w W) => edraw_bad W m n hn (H.grow g))
  have H8 := Lib.hid (fun W (g : Grow w W) => epick_bad W m n hn (H.grow g))
  have H9 := Lib.hid (fun W (g : Grow w W) => eshuffle_bad W m n hn (H.grow g))
  have H10 := Lib.hid (fun W (g : Grow w W) => eshow_bad W m n hn (H.grow g))
  have hk2 : (gt [k, a, b, c] 0 == 11) = false := hk
  clear H hn hk
  go_enter Tryz.func46, Tryz.ntmps46
  go_wp2_with (first | (go_at_call 80; refine (H0.out _ grI _ _ _).mono ?_; rintro e' w' ⟨rfl, nx, rfl⟩) | (go_at_call 98; refine (H1.out _ grI _ _ _).mono ?_; rintro e' w' ⟨rfl, nx, rfl⟩) | (go_at_call 61; refine (H2.out _ grI _ _).mono ?_; rintro e' w' ⟨rfl, nx, rfl⟩) | (go_at_call 91; refine (H3.out _ grI _ _).mono ?_; rintro e' w' ⟨rfl, nx, rfl⟩) | (go_at_call 99; refine (H4.out _ grI _ _ _).mono ?_; rintro e' w' ⟨rfl, nx, rfl⟩) | (go_at_call 100; refine (H5.out _ grI _ _).mono ?_; rintro e' w' ⟨rfl, nx, rfl⟩) | (go_at_call 101; refine (H6.out _ grI _ _ _).mono ?_; rintro e' w' ⟨rfl, nx, rfl⟩) | (go_at_call 102; refine (H7.out _ grI _).mono ?_; rintro e' w' ⟨rfl, nx, rfl⟩) | (go_at_call 103; refine (H8.out _ grI _).mono ?_; rintro e' w' ⟨rfl, nx, rfl⟩) | (go_at_call 104; refine (H9.out _ grI _).mono ?_; rintro e' w' ⟨rfl, nx, rfl⟩) | (go_at_call 105; refine (H10.out _ grI _ _).mono ?_; rintro e' w' ⟨rfl, nx, rfl⟩))
  all_goals
    go_ret
    exact ⟨rfl, grI⟩
theorem do19_nil (w : World) (k a b c : Int) : Calls Tryz.prog 46 #[.pointer none, .agg (cellsOf [k, a, b, c])] w fun e w' => e = .returned (.int .i64 0) ∧ Grow w w' := by
  by_cases hk : k = 11
  · subst hk
    have HT := Lib.hid (fun W => taken_nil W)
    have hg : gt [11, a, b, c] 0 = 11 := rfl
    go_enter Tryz.func46, Tryz.ntmps46
    go_wp2_with (go_at_call 106; refine (HT.out _).mono ?_; rintro e' w' ⟨rfl, nx, rfl⟩)
    go_ret
    exact ⟨rfl, grI⟩
  · exact do19_bad w _ 4 (by decide) (errsAt_nil w) k a b c (by simpa using hk)
/-- What an act does where there is an error. -/
def Em.actBad (E : Em) (k : Int) : Em := if k = 11 then { E with pend := [] } else E
theorem do19_err (w : World) (b : Nat) (own : Nat → Prop) (E : Em) (R : Emt w b own E) (he : E.err ≠ 0) (k a b1 c : Int) :
    Calls Tryz.prog 46 #[.pointer (some ⟨b, 0, none⟩), .agg (cellsOf [k, a, b1, c])] w fun e w' => e = .returned (.int .i64 0) ∧ EPost w b own (E.actBad k) w' := by
  unfold Em.actBad
  by_cases hk : k = 11
  · rw [if_pos hk]
    subst hk
    have HT := Lib.hid (fun W (g : Grow w W) => taken_err W b own E (R.grow g) he)
    have hg : gt [11, a, b1, c] 0 = 11 := rfl
    clear R he
    go_enter Tryz.func46, Tryz.ntmps46
    go_wp2_with (go_at_call 106; refine (HT.out _ grI).mono ?_; rintro e' w' ⟨rfl, hE⟩; have HE := Lib.hid hE; clear hE)
    go_ret
    exact ⟨rfl, EPost.low grI HE.out⟩
  · rw [if_neg hk]
    exact (do19_bad w _ E.err he (errsAt_em R) k a b1 c (by simpa using hk)).mono fun e w' h => ⟨h.1, .of_grow R h.2⟩
end Go.Proofs.YtnjclibennadcaaGreatDoor
