/-
  The cards without a colour: one ability each.
-/
import Derived.Test.YtibmnofpoenonaaGreatDoorTab2
import Derived.Test.YtibmnofpoenonaaGreatDoorMade
namespace Go.Proofs.YtibmnofpoenonaaGreatDoor
open Go Go.RowKit

/-- Cards stand so in memory, in blocks from n on. -/
def CardsOk (w : World) (n : Nat) (l : List CdV) (m : List CardN) : Prop := l.length = m.length ∧ ∀ (i : Nat) (c : CdV) (d : CardN), l[i]? = some c → m[i]? = some d → CardOk w n c d
theorem CardsOk.nil (w : World) (n : Nat) : CardsOk w n [] [] := ⟨rfl, fun i c d h => by simp at h⟩
theorem CardsOk.cons {w : World} {n : Nat} {c : CdV} {d : CardN} {l : List CdV} {m : List CardN} (h : CardOk w n c d) (hl : CardsOk w n l m) : CardsOk w n (c :: l) (d :: m) := by
  refine ⟨by rw [List.length_cons, List.length_cons, hl.1], fun i c' d' h1 h2 => ?_⟩
  cases i with
  | zero =>
    simp only [List.getElem?_cons_zero, Option.some.injEq] at h1 h2
    subst h1; subst h2; exact h
  | succ i =>
    simp only [List.getElem?_cons_succ] at h1 h2
    exact hl.2 i c' d' h1 h2
theorem CardsOk.grow {w w' : World} {n : Nat} {l : List CdV} {m : List CardN} (h : CardsOk w n l m) (g : Grow w w') : CardsOk w' n l m := ⟨h.1, fun i c d h1 h2 => (h.2 i c d h1 h2).grow g⟩
theorem CardsOk.append {w : World} {n : Nat} {l l' : List CdV} {m m' : List CardN} (h : CardsOk w n l m) (h' : CardsOk w n l' m') : CardsOk w n (l ++ l') (m ++ m') := by
  refine ⟨by rw [List.length_append, List.length_append, h.1, h'.1], fun i c d h1 h2 => ?_⟩
  by_cases hi : i < l.length
  · rw [List.getElem?_append_left hi] at h1
    rw [List.getElem?_append_left (by rw [← h.1]; exact hi)] at h2
    exact h.2 i c d h1 h2
  · rw [List.getElem?_append_right (by omega)] at h1
    rw [List.getElem?_append_right (by rw [← h.1]; omega), ← h.1] at h2
    exact h'.2 _ c d h1 h2
@[go_sem] theorem run_build_single (w : World) (a : Int) (f : Bool) (c0 c1 c2 c3 c4 c5 : Int) (k o n c : Nat) : (bdRow 92 #[(0, .int .i64 a), (1, .int .i64 5), (2, .bool f), (3, .agg (cellsOf [c0, c1, c2, c3, c4, c5])), (7, .slice (some ⟨k, o, none⟩) n c)]).run Tryz.prog w = .ok (.value (.agg (CdV.arr ⟨a, 5, f, c0, c1, c2, c3, c4, c5, 0, 0, 0, .mk k o n c⟩))) w := by kernel_rfl
set_option maxRecDepth 100000 in
set_option maxHeartbeats 1000000 in
theorem single_any (w : World) (kind price : Int) (fast : Bool) (a : AbV) (d : AbN) (n : Nat) (h : AbOk w n a d) (hn : n ≤ w.heap.size) : Calls Tryz.prog 166 #[.int .i64 kind, .int .i64 price, .bool fast, .agg a.arr] w fun r w' => ∃ c : CdV, r = .returned (.agg c.arr) ∧ c.abs.c = c.abs.n ∧ CardOk w' n c ⟨kind, 0, 0, 0, [d]⟩ ∧ Grow w w' := by
  have H := Lib.hid h
  clear h
  go_enter Tryz.func166, Tryz.ntmps166
  go_wp2_with fail
  go_region_law (first | (refine step_wanted (by rfl) ?_; go_simp; go_at_call 136; refine (cost_any _ _ _ _ (by decide) (by decide)).mono ?_; rintro e' w' ⟨d0, d1, d2, d3, d4, d5, rfl, nx, rfl⟩))
  all_goals go_wp2_with fail
  all_goals refine bodyPost_ret (results_Card rfl _ _ _ rfl ?_) rfl ?_
  all_goals first | (go_simp; done) | skip
  all_goals (refine ⟨_, (by go_simp; rfl), rfl, ⟨rfl, rfl, rfl, rfl, [a], ?_, .inr (by first | (go_simp; done) | (go_simp; omega) | (simp only [Sl.b]; go_simp; omega)), .cons (H.out.grow (by repeat (first | exact Grow.refl _ | refine Grow.andr ?_ | refine Grow.plus ?_ _ | refine Grow.alloc ?_ _ | refine Grow.drew ?_ | refine Grow.drewN ?_ _))) .nil⟩, (by repeat (first | exact Grow.refl _ | refine Grow.andr ?_ | refine Grow.plus ?_ _ | refine Grow.alloc ?_ _ | refine Grow.drew ?_ | refine Grow.drewN ?_ _))⟩; exact RowsV.one (x := a.arr) (by go_simp) (by go_simp) (by go_simp))
@[go_sem ↓] theorem bslice_cards (ρ : Operand → Value) (dst : Option Tmp) (n : Nat) (parts : Array (Nat × Operand)) (ty : TypeId) (pos : String) (after : Array Edge) (guard : Option (Nat × Bool)) :
    execOp ρ { dst, op := .buildSlice 190 n parts, type := ty, pos, after, guard } = bsRow 190 n (parts.map fun (i, x) => (i, ρ x)) := rfl
theorem run_bs_card6 (w : World) (a b c d e f : CdV) : (bsRow 190 6 #[(0, .agg a.arr), (1, .agg b.arr), (2, .agg c.arr), (3, .agg d.arr), (4, .agg e.arr), (5, .agg f.arr)]).run Tryz.prog w = .ok (.value (.slice (some ⟨w.heap.size, 0, none⟩) 6 6)) (w.alloc (.cells (catV [a.arr, b.arr, c.arr, d.arr, e.arr, f.arr]) 92)) := by
  have h := run_bs_rows (P := Tryz.prog) w 190 92 6 13 Tryz.t92 Tryz.underlying190 (fun w => by kernel_rfl) (by kernel_rfl) (by kernel_rfl) (by decide) (by decide) (by decide) [a.arr, b.arr, c.arr, d.arr, e.arr, f.arr] rfl (by simp [CdV.size])
  exact h
attribute [go_sem] run_bs_card6
/-- Cards 100 to 105, as far as their shape goes. -/
def earlyN : List CardN := List.replicate 6 ⟨2, 0, 0, 0, [⟨0, 0, 0, 0, 0⟩]⟩
/-- Cards 106 to 111, but for what 'special' adds. -/
def lateN : List CardN := [⟨2, 0, 0, 0, [⟨0, 0, 0, 0, 0⟩]⟩, ⟨3, 0, 0, 0, [⟨1, 0, 0, 0, 0⟩]⟩, ⟨1, 0, 0, 0, [⟨1, 0, 0, 0, 0⟩]⟩, ⟨2, 0, 0, 0, [⟨0, 0, 0, 0, 0⟩]⟩, ⟨2, 0, 0, 0, [⟨0, 0, 0, 0, 0⟩]⟩, ⟨1, 0, 0, 0, [⟨3, 0, 0, 0, 0⟩]⟩]
/-- Six cards, as a slice of the call's own. -/
def Six (w : World) (n : Nat) (r : Ending) (m : List CardN) : Prop := ∃ (b : Nat) (l : List CdV), r = .returned (.slice (some ⟨b, 0, none⟩) 6 6) ∧ n ≤ b ∧ RowsV w (.mk b 0 6 6) 13 (l.map CdV.arr) ∧ (∀ c, c ∈ l → c.abs.c = c.abs.n) ∧ CardsOk w n l m
set_option maxRecDepth 100000 in
set_option maxHeartbeats 2000000 in
theorem early_any (w : World) : Calls Tryz.prog 158 #[] w fun r w' => Six w' w.heap.size r earlyN ∧ Grow w w' := by
  go_enter Tryz.func158, Tryz.ntmps158
  go_wp2_with (first | (go_at_call 146; refine (tdo_any _ _ _ _ _).mono ?_; rintro e' w' ⟨rfl, nx, rfl⟩) | (go_at_call 163; refine (aim_any _ _ _).mono ?_; rintro e' w' ⟨rfl, nx, rfl⟩) | (go_at_call 166; refine (single_any _ _ _ _ _ ⟨0, 0, 0, 0, 0⟩ w.heap.size (.of rfl (by decide)) (by first | (go_simp; done) | (go_simp; omega) | (simp only [Sl.b]; go_simp; omega))).mono ?_; rintro e' w' ⟨c1, rfl, hcc, hc, nx, rfl⟩; (try simp only [drew_plus] at hc); (try simp only [plus_plus] at hc); have HC := Lib.hid (And.intro hcc hc); clear hc hcc))
  go_ret
  rename_i a1 a2 k1 a3 h1 b1 b2 k2 b3 h2 d1 d2 k3 d3 h3 e1 e2 k4 e3 h4 f1 f2 k5 f3 h5 g1 g2
  refine ⟨⟨_, [k1, k2, k3, k4, k5, c1], rfl, ?_, ?_, by simp [h1.out.1, h2.out.1, h3.out.1, h4.out.1, h5.out.1, HC.out.1], .cons (h1.out.2.grow (by repeat (first | exact Grow.refl _ | refine Grow.andr ?_ | refine Grow.plus ?_ _ | refine Grow.alloc ?_ _ | refine Grow.drew ?_ | refine Grow.drewN ?_ _))) (.cons (h2.out.2.grow (by repeat (first | exact Grow.refl _ | refine Grow.andr ?_ | refine Grow.plus ?_ _ | refine Grow.alloc ?_ _ | refine Grow.drew ?_ | refine Grow.drewN ?_ _))) (.cons (h3.out.2.grow (by repeat (first | exact Grow.refl _ | refine Grow.andr ?_ | refine Grow.plus ?_ _ | refine Grow.alloc ?_ _ | refine Grow.drew ?_ | refine Grow.drewN ?_ _))) (.cons (h4.out.2.grow (by repeat (first | exact Grow.refl _ | refine Grow.andr ?_ | refine Grow.plus ?_ _ | refine Grow.alloc ?_ _ | refine Grow.drew ?_ | refine Grow.drewN ?_ _))) (.cons (h5.out.2.grow (by repeat (first | exact Grow.refl _ | refine Grow.andr ?_ | refine Grow.plus ?_ _ | refine Grow.alloc ?_ _ | refine Grow.drew ?_ | refine Grow.drewN ?_ _))) (.cons (HC.out.2.grow (by repeat (first | exact Grow.refl _ | refine Grow.andr ?_ | refine Grow.plus ?_ _ | refine Grow.alloc ?_ _ | refine Grow.drew ?_ | refine Grow.drewN ?_ _))) (.nil _ _))))))⟩, (by repeat (first | exact Grow.refl _ | refine Grow.andr ?_ | refine Grow.plus ?_ _ | refine Grow.alloc ?_ _ | refine Grow.drew ?_ | refine Grow.drewN ?_ _))⟩
  · exact (by first | (go_simp; done) | (go_simp; omega) | (simp only [Sl.b]; go_simp; omega))
  · exact RowsV.many (by go_simp) (by go_simp) (by simp [CdV.size]) rfl
set_option maxRecDepth 100000 in
set_option maxHeartbeats 2000000 in
theorem late_any (w : World) : Calls Tryz.prog 159 #[] w fun r w' => Six w' w.heap.size r lateN ∧ Grow w w' := by
  go_enter Tryz.func159, Tryz.ntmps159
  go_wp2_with (first | (go_at_call 146; refine (tdo_any _ _ _ _ _).mono ?_; rintro e' w' ⟨rfl, nx, rfl⟩) | (go_at_call 163; refine (aim_any _ _ _).mono ?_; rintro e' w' ⟨rfl, nx, rfl⟩) | (go_at_call 145; refine (when_any _ _ _).mono ?_; rintro e' w' ⟨rfl, nx, rfl⟩) | (go_at_call 164; refine (every_any _ _ _ _ _).mono ?_; rintro e' w' ⟨s1, rfl, _, nx, rfl⟩) | (go_at_call 136; refine (cost_any _ _ _ _ (by decide) (by decide)).mono ?_; rintro e' w' ⟨d0, d1, d2, d3, d4, d5, rfl, nx, rfl⟩) | (go_at_call 147; refine (active_any _ _ _ _ _ _ _ _ _ _).mono ?_; rintro e' w' ⟨rfl, nx, rfl⟩) | (go_at_call 166; first | (refine (single_any _ _ _ _ _ ⟨0, 0, 0, 0, 0⟩ w.heap.size (.of rfl (by decide)) (by first | (go_simp; done) | (go_simp; omega) | (simp only [Sl.b]; go_simp; omega))).mono ?_; rintro e' w' ⟨c1, rfl, hcc, hc, nx, rfl⟩; (try simp only [drew_plus] at hc); (try simp only [plus_plus] at hc); have HC := Lib.hid (And.intro hcc hc); clear hc hcc) | (refine (single_any _ _ _ _ _ ⟨1, 0, 0, 0, 0⟩ w.heap.size (.of rfl (by decide)) (by first | (go_simp; done) | (go_simp; omega) | (simp only [Sl.b]; go_simp; omega))).mono ?_; rintro e' w' ⟨c1, rfl, hcc, hc, nx, rfl⟩; (try simp only [drew_plus] at hc); (try simp only [plus_plus] at hc); have HC := Lib.hid (And.intro hcc hc); clear hc hcc) | (refine (single_any _ _ _ _ _ ⟨3, 0, 0, 0, 0⟩ w.heap.size (.of rfl (by decide)) (by first | (go_simp; done) | (go_simp; omega) | (simp only [Sl.b]; go_simp; omega))).mono ?_; rintro e' w' ⟨c1, rfl, hcc, hc, nx, rfl⟩; (try simp only [drew_plus] at hc); (try simp only [plus_plus] at hc); have HC := Lib.hid (And.intro hcc hc); clear hc hcc)))
  go_ret
  rename_i q1 q2 q3 q4 k1 q5 h1 q6 q7 k2 q8 h2 q9 q10 q11 k3 q12 h3 q13 q14 k4 q15 h4 q16 q17 q18 k5 q19 h5 q20 q21
  refine ⟨⟨_, [k1, k2, k3, k4, k5, c1], rfl, ?_, ?_, by simp [h1.out.1, h2.out.1, h3.out.1, h4.out.1, h5.out.1, HC.out.1], .cons (h1.out.2.grow (by repeat (first | exact Grow.refl _ | refine Grow.andr ?_ | refine Grow.plus ?_ _ | refine Grow.alloc ?_ _ | refine Grow.drew ?_ | refine Grow.drewN ?_ _))) (.cons (h2.out.2.grow (by repeat (first | exact Grow.refl _ | refine Grow.andr ?_ | refine Grow.plus ?_ _ | refine Grow.alloc ?_ _ | refine Grow.drew ?_ | refine Grow.drewN ?_ _))) (.cons (h3.out.2.grow (by repeat (first | exact Grow.refl _ | refine Grow.andr ?_ | refine Grow.plus ?_ _ | refine Grow.alloc ?_ _ | refine Grow.drew ?_ | refine Grow.drewN ?_ _))) (.cons (h4.out.2.grow (by repeat (first | exact Grow.refl _ | refine Grow.andr ?_ | refine Grow.plus ?_ _ | refine Grow.alloc ?_ _ | refine Grow.drew ?_ | refine Grow.drewN ?_ _))) (.cons (h5.out.2.grow (by repeat (first | exact Grow.refl _ | refine Grow.andr ?_ | refine Grow.plus ?_ _ | refine Grow.alloc ?_ _ | refine Grow.drew ?_ | refine Grow.drewN ?_ _))) (.cons (HC.out.2.grow (by repeat (first | exact Grow.refl _ | refine Grow.andr ?_ | refine Grow.plus ?_ _ | refine Grow.alloc ?_ _ | refine Grow.drew ?_ | refine Grow.drewN ?_ _))) (.nil _ _))))))⟩, (by repeat (first | exact Grow.refl _ | refine Grow.andr ?_ | refine Grow.plus ?_ _ | refine Grow.alloc ?_ _ | refine Grow.drew ?_ | refine Grow.drewN ?_ _))⟩
  · exact (by first | (go_simp; done) | (go_simp; omega) | (simp only [Sl.b]; go_simp; omega))
  · exact RowsV.many (by go_simp) (by go_simp) (by simp [CdV.size]) rfl
end Go.Proofs.YtibmnofpoenonaaGreatDoor
