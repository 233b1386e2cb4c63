/-
  The walks of an emitter's calls where it is nil or has an error: they leave at once.
-/
import Derived.Test.YtnjclibennadcaaGreatDoorMEm
namespace Go.Proofs.YtnjclibennadcaaGreatDoor
open Go Go.RowKit Go.Shelf

/-- An emitter that answers an error, whatever it is. -/
def ErrsAt (w : World) (m : Value) (n : Int) : Prop := ∀ W, Grow w W → Calls Tryz.prog 37 #[m] W fun e w' => e = .returned (errV n) ∧ Grow W w'
theorem ErrsAt.grow {w w' : World} {m : Value} {n : Int} (h : ErrsAt w m n) (g : Grow w w') : ErrsAt w' m n := fun W g' => h W (g.trans g')
theorem errsAt_em {w : World} {b : Nat} {own : Nat → Prop} {E : Em} (R : Emt w b own E) : ErrsAt w (.pointer (some ⟨b, 0, none⟩)) E.err := fun W g => err_any W b own E (R.grow g)
theorem errsAt_nil (w : World) : ErrsAt w (.pointer none) 4 := fun W _ => by
  go_enter Tryz.func37, Tryz.ntmps37
  go_wp2_with fail
  go_ret
  exact ⟨by first | rfl | (rw [errV_is (by decide)]), grI⟩
/-- The hypotheses of a call at such an emitter. -/
theorem must_bad (w : World) (m : Value) (n : Int) (hn : n ≠ 0) (H : ErrsAt w m n) (ok : Bool) (k : Int) :
    Calls Tryz.prog 148 #[m, .bool ok, .int .i64 k] w fun e w' => e = .returned (.bool false) ∧ Grow w w' := by
  have HE := Lib.hid (show ∀ W, Grow w W → Calls Tryz.prog 37 #[m] W fun e w' => e = .returned (.iface 88 (.int .i64 n)) ∧ Grow W w' from fun W g => by have := H W g; rw [errV_is hn] at this; exact this)
  clear H hn
  go_enter Tryz.func148, Tryz.ntmps148
  go_wp2_with (go_at_call 37; refine (HE.out _ grI).mono ?_; rintro e' w' ⟨rfl, nx, rfl⟩)
  go_ret
  exact ⟨rfl, grI⟩
theorem eset_bad (w : World) (m : Value) (n : Int) (hn : n ≠ 0) (H : ErrsAt w m n) (a b c : Int) :
    Calls Tryz.prog 80 #[m, .int .i64 a, .int .i64 b, .int .i64 c] w fun e w' => e = .returned (.tuple #[]) ∧ Grow w w' := by
  have HE := Lib.hid (show ∀ W, Grow w W → Calls Tryz.prog 37 #[m] W fun e w' => e = .returned (.iface 88 (.int .i64 n)) ∧ Grow W w' from fun W g => by have := H W g; rw [errV_is hn] at this; exact this)
  clear H hn
  go_enter Tryz.func80, Tryz.ntmps80
  go_wp2_with (go_at_call 37; refine (HE.out _ grI).mono ?_; rintro e' w' ⟨rfl, nx, rfl⟩)
  first | go_end0 | refine bodyPost_ret (results_none rfl _ _ _) rfl ?_
  exact ⟨rfl, grI⟩
theorem eplayer_bad (w : World) (m : Value) (n : Int) (hn : n ≠ 0) (H : ErrsAt w m n) (a b c : Int) :
    Calls Tryz.prog 98 #[m, .int .i64 a, .int .i64 b, .int .i64 c] w fun e w' => e = .returned (.tuple #[]) ∧ Grow w w' := by
  have HE := Lib.hid (show ∀ W, Grow w W → Calls Tryz.prog 37 #[m] W fun e w' => e = .returned (.iface 88 (.int .i64 n)) ∧ Grow W w' from fun W g => by have := H W g; rw [errV_is hn] at this; exact this)
  clear H hn
  go_enter Tryz.func98, Tryz.ntmps98
  go_wp2_with (go_at_call 37; refine (HE.out _ grI).mono ?_; rintro e' w' ⟨rfl, nx, rfl⟩)
  first | go_end0 | refine bodyPost_ret (results_none rfl _ _ _) rfl ?_
  exact ⟨rfl, grI⟩
theorem egame_bad (w : World) (m : Value) (n : Int) (hn : n ≠ 0) (H : ErrsAt w m n) (a b : Int) :
    Calls Tryz.prog 61 #[m, .int .i64 a, .int .i64 b] w fun e w' => e = .returned (.tuple #[]) ∧ Grow w w' := by
  have HE := Lib.hid (show ∀ W, Grow w W → Calls Tryz.prog 37 #[m] W fun e w' => e = .returned (.iface 88 (.int .i64 n)) ∧ Grow W w' from fun W g => by have := H W g; rw [errV_is hn] at this; exact this)
  clear H hn
  go_enter Tryz.func61, Tryz.ntmps61
  go_wp2_with (go_at_call 37; refine (HE.out _ grI).mono ?_; rintro e' w' ⟨rfl, nx, rfl⟩)
  first | go_end0 | refine bodyPost_ret (results_none rfl _ _ _) rfl ?_
  exact ⟨rfl, grI⟩
theorem eput_bad (w : World) (m : Value) (n : Int) (hn : n ≠ 0) (H : ErrsAt w m n) (a b : Int) :
    Calls Tryz.prog 91 #[m, .int .i64 a, .int .i64 b] w fun e w' => e = .returned (.tuple #[]) ∧ Grow w w' := by
  have HE := Lib.hid (show ∀ W, Grow w W → Calls Tryz.prog 37 #[m] W fun e w' => e = .returned (.iface 88 (.int .i64 n)) ∧ Grow W w' from fun W g => by have := H W g; rw [errV_is hn] at this; exact this)
  clear H hn
  go_enter Tryz.func91, Tryz.ntmps91
  go_wp2_with (go_at_call 37; refine (HE.out _ grI).mono ?_; rintro e' w' ⟨rfl, nx, rfl⟩)
  first | go_end0 | refine bodyPost_ret (results_none rfl _ _ _) rfl ?_
  exact ⟨rfl, grI⟩
theorem eshow_bad (w : World) (m : Value) (n : Int) (hn : n ≠ 0) (H : ErrsAt w m n) (a b : Int) :
    Calls Tryz.prog 105 #[m, .int .i64 a, .int .i64 b] w fun e w' => e = .returned (.tuple #[]) ∧ Grow w w' := by
  have HE := Lib.hid (show ∀ W, Grow w W → Calls Tryz.prog 37 #[m] W fun e w' => e = .returned (.iface 88 (.int .i64 n)) ∧ Grow W w' from fun W g => by have := H W g; rw [errV_is hn] at this; exact this)
  clear H hn
  go_enter Tryz.func105, Tryz.ntmps105
  go_wp2_with (go_at_call 37; refine (HE.out _ grI).mono ?_; rintro e' w' ⟨rfl, nx, rfl⟩)
  first | go_end0 | refine bodyPost_ret (results_none rfl _ _ _) rfl ?_
  exact ⟨rfl, grI⟩
theorem emake_bad (w : World) (m : Value) (n : Int) (hn : n ≠ 0) (H : ErrsAt w m n) (a b c : Int) :
    Calls Tryz.prog 99 #[m, .int .i64 a, .int .i64 b, .int .i64 c] w fun e w' => e = .returned (.int .i64 0) ∧ Grow w w' := by
  have HE := Lib.hid (show ∀ W, Grow w W → Calls Tryz.prog 37 #[m] W fun e w' => e = .returned (.iface 88 (.int .i64 n)) ∧ Grow W w' from fun W g => by have := H W g; rw [errV_is hn] at this; exact this)
  clear H hn
  go_enter Tryz.func99, Tryz.ntmps99
  go_wp2_with (go_at_call 37; refine (HE.out _ grI).mono ?_; rintro e' w' ⟨rfl, nx, rfl⟩)
  go_ret
  exact ⟨rfl, grI⟩
theorem epick_bad (w : World) (m : Value) (n : Int) (hn : n ≠ 0) (H : ErrsAt w m n) (a : Int) :
    Calls Tryz.prog 103 #[m, .int .i64 a] w fun e w' => e = .returned (.int .i64 0) ∧ Grow w w' := by
  have HE := Lib.hid (show ∀ W, Grow w W → Calls Tryz.prog 37 #[m] W fun e w' => e = .returned (.iface 88 (.int .i64 n)) ∧ Grow W w' from fun W g => by have := H W g; rw [errV_is hn] at this; exact this)
  clear H hn
  go_enter Tryz.func103, Tryz.ntmps103
  go_wp2_with (go_at_call 37; refine (HE.out _ grI).mono ?_; rintro e' w' ⟨rfl, nx, rfl⟩)
  go_ret
  exact ⟨rfl, grI⟩
theorem epend_bad (w : World) (m : Value) (n : Int) (hn : n ≠ 0) (H : ErrsAt w m n) :
    Calls Tryz.prog 54 #[m] w fun e w' => e = .returned (.slice none 0 0) ∧ Grow w w' := by
  have HE := Lib.hid (show ∀ W, Grow w W → Calls Tryz.prog 37 #[m] W fun e w' => e = .returned (.iface 88 (.int .i64 n)) ∧ Grow W w' from fun W g => by have := H W g; rw [errV_is hn] at this; exact this)
  clear H hn
  go_enter Tryz.func54, Tryz.ntmps54
  go_wp2_with (go_at_call 37; refine (HE.out _ grI).mono ?_; rintro e' w' ⟨rfl, nx, rfl⟩)
  go_ret
  exact ⟨rfl, grI⟩
theorem eevs_bad (w : World) (m : Value) (n : Int) (hn : n ≠ 0) (H : ErrsAt w m n) :
    Calls Tryz.prog 47 #[m] w fun e w' => e = .returned (.slice none 0 0) ∧ Grow w w' := by
  have HE := Lib.hid (show ∀ W, Grow w W → Calls Tryz.prog 37 #[m] W fun e w' => e = .returned (.iface 88 (.int .i64 n)) ∧ Grow W w' from fun W g => by have := H W g; rw [errV_is hn] at this; exact this)
  clear H hn
  go_enter Tryz.func47, Tryz.ntmps47
  go_wp2_with (go_at_call 37; refine (HE.out _ grI).mono ?_; rintro e' w' ⟨rfl, nx, rfl⟩)
  go_ret
  exact ⟨rfl, grI⟩
theorem player_bad (w : World) (m : Value) (n : Int) (hn : n ≠ 0) (H : ErrsAt w m n) (p : Int) :
    Calls Tryz.prog 163 #[m, .int .i64 p] w fun e w' => e = .returned (.bool false) ∧ Grow w w' := by
  have HM := Lib.hid (fun W (g : Grow w W) ok k => must_bad W m n hn (H.grow g) ok k)
  clear H hn
  by_cases h0 : p = 0
  · subst h0
    go_enter Tryz.func163, Tryz.ntmps163
    go_wp2_with (go_at_call 148; refine (HM.out _ grI _ _).mono ?_; rintro e' w' ⟨rfl, nx, rfl⟩)
    go_ret
    exact ⟨rfl, grI⟩
  · have hb : (p == 0) = false := by simpa using h0
    clear h0
    go_enter Tryz.func163, Tryz.ntmps163
    go_wp2_with (go_at_call 148; refine (HM.out _ grI _ _).mono ?_; rintro e' w' ⟨rfl, nx, rfl⟩)
    go_ret
    exact ⟨rfl, grI⟩
theorem elife_bad (w : World) (m : Value) (n : Int) (hn : n ≠ 0) (H : ErrsAt w m n) (a b : Int) :
    Calls Tryz.prog 100 #[m, .int .i64 a, .int .i64 b] w fun e w' => e = .returned (.tuple #[]) ∧ Grow w w' := by
  have HP := Lib.hid (fun W (g : Grow w W) => player_bad W m n hn (H.grow g) a)
  clear H hn
  go_enter Tryz.func100, Tryz.ntmps100
  go_wp2_with (go_at_call 163; refine (HP.out _ grI).mono ?_; rintro e' w' ⟨rfl, nx, rfl⟩)
  first | go_end0 | refine bodyPost_ret (results_none rfl _ _ _) rfl ?_
  exact ⟨rfl, grI⟩
theorem emana_bad (w : World) (m : Value) (n : Int) (hn : n ≠ 0) (H : ErrsAt w m n) (a b c : Int) :
    Calls Tryz.prog 101 #[m, .int .i64 a, .int .i64 b, .int .i64 c] w fun e w' => e = .returned (.tuple #[]) ∧ Grow w w' := by
  have HP := Lib.hid (fun W (g : Grow w W) => player_bad W m n hn (H.grow g) a)
  clear H hn
  go_enter Tryz.func101, Tryz.ntmps101
  go_wp2_with (go_at_call 163; refine (HP.out _ grI).mono ?_; rintro e' w' ⟨rfl, nx, rfl⟩)
  first | go_end0 | refine bodyPost_ret (results_none rfl _ _ _) rfl ?_
  exact ⟨rfl, grI⟩
theorem edraw_bad (w : World) (m : Value) (n : Int) (hn : n ≠ 0) (H : ErrsAt w m n) (a : Int) :
    Calls Tryz.prog 102 #[m, .int .i64 a] w fun e w' => e = .returned (.tuple #[]) ∧ Grow w w' := by
  have HP := Lib.hid (fun W (g : Grow w W) => player_bad W m n hn (H.grow g) a)
  clear H hn
  go_enter Tryz.func102, Tryz.ntmps102
  go_wp2_with (go_at_call 163; refine (HP.out _ grI).mono ?_; rintro e' w' ⟨rfl, nx, rfl⟩)
  first | go_end0 | refine bodyPost_ret (results_none rfl _ _ _) rfl ?_
  exact ⟨rfl, grI⟩
theorem eshuffle_bad (w : World) (m : Value) (n : Int) (hn : n ≠ 0) (H : ErrsAt w m n) (a : Int) :
    Calls Tryz.prog 104 #[m, .int .i64 a] w fun e w' => e = .returned (.tuple #[]) ∧ Grow w w' := by
  have HP := Lib.hid (fun W (g : Grow w W) => player_bad W m n hn (H.grow g) a)
  clear H hn
  go_enter Tryz.func104, Tryz.ntmps104
  go_wp2_with (go_at_call 163; refine (HP.out _ grI).mono ?_; rintro e' w' ⟨rfl, nx, rfl⟩)
  first | go_end0 | refine bodyPost_ret (results_none rfl _ _ _) rfl ?_
  exact ⟨rfl, grI⟩
set_option maxRecDepth 100000 in
theorem estate_bad (w : World) (m : Value) (n : Int) (hn : n ≠ 0) (H : ErrsAt w m n) :
    Calls Tryz.prog 38 #[m] w fun e w' => e = .returned (.agg (stA SV.zero fun _ => 0)) ∧ Grow w w' := by
  have HE := Lib.hid (show ∀ W, Grow w W → Calls Tryz.prog 37 #[m] W fun e w' => e = .returned (.iface 88 (.int .i64 n)) ∧ Grow W w' from fun W g => by have := H W g; rw [errV_is hn] at this; exact this)
  clear H hn
  go_enter Tryz.func38, Tryz.ntmps38
  go_wp2_with (go_at_call 37; refine (HE.out _ grI).mono ?_; rintro e' w' ⟨rfl, nx, rfl⟩)
  refine bodyPost_ret (results_S rfl _ _ (w.heap.size) rfl ?_) rfl ?_
  · go_simp
  · exact ⟨by go_simp, grI⟩
theorem fail_none (w : World) (v : Value) : Calls Tryz.prog 51 #[.pointer none, v] w fun e w' => e = .returned (.tuple #[]) ∧ Grow w w' := by
  go_enter Tryz.func51, Tryz.ntmps51
  go_wp2_with fail
  first | go_end0 | refine bodyPost_ret (results_none rfl _ _ _) rfl ?_
  exact ⟨rfl, grI⟩
end Go.Proofs.YtnjclibennadcaaGreatDoor
