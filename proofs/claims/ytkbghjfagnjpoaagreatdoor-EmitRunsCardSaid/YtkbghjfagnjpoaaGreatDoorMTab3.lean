/-
  The cards without a colour: one ability each.
  Special cards, beasts, and the table of all cards.
  Beasts, and the table of all cards.
  The table of all cards.
-/
import Derived.Test.YtkbghjfagnjpoaaGreatDoorMSpells
import Derived.Test.YtkbghjfagnjpoaaGreatDoorMMade
namespace Go.Proofs.YtkbghjfagnjpoaaGreatDoor
open Go Go.RowKit

/-- Cards stand so in memory, in blocks from n on. -/
def CardsOk (w : World) (n : Nat) (l : List CdV) (m : List CardN) : Prop := l.length = m.length ∧ ∀ (i : Nat) (c : CdV) (d : CardN), l[i]? = some c → m[i]? = some d → CardOk w n c d
theorem CardsOk.nil (w : World) (n : Nat) : CardsOk w n [] [] := ⟨rfl, fun i c d h => by simp at h⟩
theorem CardsOk.cons {w : World} {n : Nat} {c : CdV} {d : CardN} {l : List CdV} {m : List CardN} (h : CardOk w n c d) (hl : CardsOk w n l m) : CardsOk w n (c :: l) (d :: m) := by
  refine ⟨by rw [List.length_cons, List.length_cons, hl.1], fun i c' d' h1 h2 => ?_⟩
  cases i with
  | zero =>
    simp only [List.getElem?_cons_zero, Option.some.injEq] at h1 h2
    subst h1; subst h2; exact h
  | succ i =>
    simp only [List.getElem?_cons_succ] at h1 h2
    exact hl.2 i c' d' h1 h2
theorem CardsOk.grow {w w' : World} {n : Nat} {l : List CdV} {m : List CardN} (h : CardsOk w n l m) (g : Grow w w') : CardsOk w' n l m := ⟨h.1, fun i c d h1 h2 => (h.2 i c d h1 h2).grow g⟩
theorem CardsOk.append {w : World} {n : Nat} {l l' : List CdV} {m m' : List CardN} (h : CardsOk w n l m) (h' : CardsOk w n l' m') : CardsOk w n (l ++ l') (m ++ m') := by
  refine ⟨by rw [List.length_append, List.length_append, h.1, h'.1], fun i c d h1 h2 => ?_⟩
  by_cases hi : i < l.length
  · rw [List.getElem?_append_left hi] at h1
    rw [List.getElem?_append_left (by rw [← h.1]; exact hi)] at h2
    exact h.2 i c d h1 h2
  · rw [List.getElem?_append_right (by omega)] at h1
    rw [List.getElem?_append_right (by rw [← h.1]; omega), ← h.1] at h2
    exact h'.2 _ c d h1 h2
@[go_sem] theorem run_build_single (w : World) (a : Int) (f : Bool) (c0 c1 c2 c3 c4 c5 : Int) (k o n c : Nat) : (bdRow 44 #[(0, .int .i64 a), (1, .int .i64 5), (2, .bool f), (3, .agg (cellsOf [c0, c1, c2, c3, c4, c5])), (7, .slice (some ⟨k, o, none⟩) n c)]).run Tryz.prog w = .ok (.value (.agg (CdV.arr ⟨a, 5, f, c0, c1, c2, c3, c4, c5, 0, 0, 0, .mk k o n c⟩))) w := by kernel_rfl
set_option maxRecDepth 100000 in
set_option maxHeartbeats 1000000 in
theorem single_any (w : World) (kind price : Int) (fast : Bool) (a : AbV) (d : AbN) (n : Nat) (h : AbOk w n a d) (hn : n ≤ w.heap.size) : Calls Tryz.prog 167 #[.int .i64 kind, .int .i64 price, .bool fast, .agg a.arr] w fun r w' => ∃ c : CdV, r = .returned (.agg c.arr) ∧ c.abs.c = c.abs.n ∧ CardOk w' n c ⟨kind, 0, 0, 0, [d]⟩ ∧ Grow w w' := by
  have H := Lib.hid h
  clear h
  go_enter Tryz.func167, Tryz.ntmps167
  go_wp2_with fail
  go_region_law (first | (refine step_wanted (by rfl) ?_; go_simp; go_at_call 105; refine (cost_any _ _ _ _ (by decide) (by decide)).mono ?_; rintro e' w' ⟨d0, d1, d2, d3, d4, d5, rfl, nx, rfl⟩))
  all_goals go_wp2_with fail
  all_goals refine bodyPost_ret (results_Card rfl _ _ _ rfl ?_) rfl ?_
  all_goals first | (go_simp; done) | skip
  all_goals (refine ⟨_, (by go_simp; rfl), rfl, ⟨rfl, rfl, rfl, rfl, [a], ?_, .inr (by first | (go_simp; done) | (go_simp; omega) | (simp only [Sl.b]; go_simp; omega)), .cons (H.out.grow grI) .nil⟩, grI⟩; exact RowsV.one (x := a.arr) (by go_simp) (by go_simp) (by go_simp))
@[go_sem ↓] theorem bslice_cards (ρ : Operand → Value) (dst : Option Tmp) (n : Nat) (parts : Array (Nat × Operand)) (ty : TypeId) (pos : String) (after : Array Edge) (guard : Option (Nat × Bool)) :
    execOp ρ { dst, op := .buildSlice 175 n parts, type := ty, pos, after, guard } = bsRow 175 n (parts.map fun (i, x) => (i, ρ x)) := rfl
theorem run_bs_card6 (w : World) (a b c d e f : CdV) : (bsRow 175 6 #[(0, .agg a.arr), (1, .agg b.arr), (2, .agg c.arr), (3, .agg d.arr), (4, .agg e.arr), (5, .agg f.arr)]).run Tryz.prog w = .ok (.value (.slice (some ⟨w.heap.size, 0, none⟩) 6 6)) (w.alloc (.cells (catV [a.arr, b.arr, c.arr, d.arr, e.arr, f.arr]) 44)) := by
  have h := run_bs_rows (P := Tryz.prog) w 175 44 6 13 Tryz.t44 Tryz.underlying175 (fun w => by kernel_rfl) (by kernel_rfl) (by kernel_rfl) (by decide) (by decide) (by decide) [a.arr, b.arr, c.arr, d.arr, e.arr, f.arr] rfl (by simp [CdV.size])
  exact h
attribute [go_sem] run_bs_card6
/-- Cards 100 to 105, as far as their shape goes. -/
def earlyN : List CardN := List.replicate 6 ⟨2, 0, 0, 0, [⟨0, 0, 0, 0, 0⟩]⟩
/-- Cards 106 to 111, but for what 'special' adds. -/
def lateN : List CardN := [⟨2, 0, 0, 0, [⟨0, 0, 0, 0, 0⟩]⟩, ⟨3, 0, 0, 0, [⟨1, 0, 0, 0, 0⟩]⟩, ⟨1, 0, 0, 0, [⟨1, 0, 0, 0, 0⟩]⟩, ⟨2, 0, 0, 0, [⟨0, 0, 0, 0, 0⟩]⟩, ⟨2, 0, 0, 0, [⟨0, 0, 0, 0, 0⟩]⟩, ⟨1, 0, 0, 0, [⟨3, 0, 0, 0, 0⟩]⟩]
/-- Six cards, as a slice of the call's own. -/
def Six (w : World) (n : Nat) (r : Ending) (m : List CardN) : Prop := ∃ (b : Nat) (l : List CdV), r = .returned (.slice (some ⟨b, 0, none⟩) 6 6) ∧ n ≤ b ∧ RowsV w (.mk b 0 6 6) 13 (l.map CdV.arr) ∧ (∀ c, c ∈ l → c.abs.c = c.abs.n) ∧ CardsOk w n l m
set_option maxRecDepth 100000 in
set_option maxHeartbeats 2000000 in
theorem early_any (w : World) : Calls Tryz.prog 150 #[] w fun r w' => Six w' w.heap.size r earlyN ∧ Grow w w' := by
  go_enter Tryz.func150, Tryz.ntmps150
  go_wp2_with (first | (go_at_call 138; refine (tdo_any _ _ _ _ _).mono ?_; rintro e' w' ⟨rfl, nx, rfl⟩) | (go_at_call 164; refine (aim_any _ _ _).mono ?_; rintro e' w' ⟨rfl, nx, rfl⟩) | (go_at_call 167; refine (single_any _ _ _ _ _ ⟨0, 0, 0, 0, 0⟩ w.heap.size (.of rfl (by decide)) (by first | (go_simp; done) | (go_simp; omega) | (simp only [Sl.b]; go_simp; omega))).mono ?_; rintro e' w' ⟨c1, rfl, hcc, hc, nx, rfl⟩; (try simp only [drew_plus] at hc); (try simp only [plus_plus] at hc); have HC := Lib.hid (And.intro hcc hc); clear hc hcc))
  go_ret
  rename_i a1 a2 k1 a3 h1 b1 b2 k2 b3 h2 d1 d2 k3 d3 h3 e1 e2 k4 e3 h4 f1 f2 k5 f3 h5 g1 g2
  refine ⟨⟨_, [k1, k2, k3, k4, k5, c1], rfl, ?_, ?_, by simp [h1.out.1, h2.out.1, h3.out.1, h4.out.1, h5.out.1, HC.out.1], .cons (h1.out.2.grow grI) (.cons (h2.out.2.grow grI) (.cons (h3.out.2.grow grI) (.cons (h4.out.2.grow grI) (.cons (h5.out.2.grow grI) (.cons (HC.out.2.grow grI) (.nil _ _))))))⟩, grI⟩
  · exact (by first | (go_simp; done) | (go_simp; omega) | (simp only [Sl.b]; go_simp; omega))
  · exact RowsV.many (by go_simp) (by go_simp) (by simp [CdV.size]) rfl
set_option maxRecDepth 100000 in
set_option maxHeartbeats 2000000 in
theorem late_any (w : World) : Calls Tryz.prog 151 #[] w fun r w' => Six w' w.heap.size r lateN ∧ Grow w w' := by
  go_enter Tryz.func151, Tryz.ntmps151
  go_wp2_with (first | (go_at_call 138; refine (tdo_any _ _ _ _ _).mono ?_; rintro e' w' ⟨rfl, nx, rfl⟩) | (go_at_call 164; refine (aim_any _ _ _).mono ?_; rintro e' w' ⟨rfl, nx, rfl⟩) | (go_at_call 137; refine (when_any _ _ _).mono ?_; rintro e' w' ⟨rfl, nx, rfl⟩) | (go_at_call 165; refine (every_any _ _ _ _ _).mono ?_; rintro e' w' ⟨s1, rfl, _, nx, rfl⟩) | (go_at_call 105; refine (cost_any _ _ _ _ (by decide) (by decide)).mono ?_; rintro e' w' ⟨d0, d1, d2, d3, d4, d5, rfl, nx, rfl⟩) | (go_at_call 139; refine (active_any _ _ _ _ _ _ _ _ _ _).mono ?_; rintro e' w' ⟨rfl, nx, rfl⟩) | (go_at_call 167; first | (refine (single_any _ _ _ _ _ ⟨0, 0, 0, 0, 0⟩ w.heap.size (.of rfl (by decide)) (by first | (go_simp; done) | (go_simp; omega) | (simp only [Sl.b]; go_simp; omega))).mono ?_; rintro e' w' ⟨c1, rfl, hcc, hc, nx, rfl⟩; (try simp only [drew_plus] at hc); (try simp only [plus_plus] at hc); have HC := Lib.hid (And.intro hcc hc); clear hc hcc) | (refine (single_any _ _ _ _ _ ⟨1, 0, 0, 0, 0⟩ w.heap.size (.of rfl (by decide)) (by first | (go_simp; done) | (go_simp; omega) | (simp only [Sl.b]; go_simp; omega))).mono ?_; rintro e' w' ⟨c1, rfl, hcc, hc, nx, rfl⟩; (try simp only [drew_plus] at hc); (try simp only [plus_plus] at hc); have HC := Lib.hid (And.intro hcc hc); clear hc hcc) | (refine (single_any _ _ _ _ _ ⟨3, 0, 0, 0, 0⟩ w.heap.size (.of rfl (by decide)) (by first | (go_simp; done) | (go_simp; omega) | (simp only [Sl.b]; go_simp; omega))).mono ?_; rintro e' w' ⟨c1, rfl, hcc, hc, nx, rfl⟩; (try simp only [drew_plus] at hc); (try simp only [plus_plus] at hc); have HC := Lib.hid (And.intro hcc hc); clear hc hcc)))
  go_ret
  rename_i q1 q2 q3 q4 k1 q5 h1 q6 q7 k2 q8 h2 q9 q10 q11 k3 q12 h3 q13 q14 k4 q15 h4 q16 q17 q18 k5 q19 h5 q20 q21
  refine ⟨⟨_, [k1, k2, k3, k4, k5, c1], rfl, ?_, ?_, by simp [h1.out.1, h2.out.1, h3.out.1, h4.out.1, h5.out.1, HC.out.1], .cons (h1.out.2.grow grI) (.cons (h2.out.2.grow grI) (.cons (h3.out.2.grow grI) (.cons (h4.out.2.grow grI) (.cons (h5.out.2.grow grI) (.cons (HC.out.2.grow grI) (.nil _ _))))))⟩, grI⟩
  · exact (by first | (go_simp; done) | (go_simp; omega) | (simp only [Sl.b]; go_simp; omega))
  · exact RowsV.many (by go_simp) (by go_simp) (by simp [CdV.size]) rfl
end Go.Proofs.YtkbghjfagnjpoaaGreatDoor
namespace Go.Proofs.YtkbghjfagnjpoaaGreatDoor
open Go Go.RowKit

@[go_sem] theorem CdV.get0 (c : CdV) : c.arr[0]? = some (I c.kind) := rfl
@[go_sem] theorem CdV.get9 (c : CdV) : c.arr[9]? = some (I c.pw) := rfl
@[go_sem] theorem CdV.get10 (c : CdV) : c.arr[10]? = some (I c.tf) := rfl
@[go_sem] theorem CdV.get11 (c : CdV) : c.arr[11]? = some (I c.says) := rfl
@[go_sem] theorem CdV.get12 (c : CdV) : c.arr[12]? = some c.abs.val := rfl
@[go_sem] theorem CdV.get0' (c : CdV) (h : 0 < c.arr.size) : c.arr[0]'h = I c.kind := rfl
@[go_sem] theorem CdV.get9' (c : CdV) (h : 9 < c.arr.size) : c.arr[9]'h = I c.pw := rfl
@[go_sem] theorem CdV.get10' (c : CdV) (h : 10 < c.arr.size) : c.arr[10]'h = I c.tf := rfl
@[go_sem] theorem CdV.get11' (c : CdV) (h : 11 < c.arr.size) : c.arr[11]'h = I c.says := rfl
@[go_sem] theorem CdV.get12' (c : CdV) (h : 12 < c.arr.size) : c.arr[12]'h = c.abs.val := rfl
@[go_sem] theorem CdV.set9 (c : CdV) (x : Int) : c.arr.setIfInBounds 9 (.int .i64 x) = CdV.arr { c with pw := x } := rfl
@[go_sem] theorem CdV.set10 (c : CdV) (x : Int) : c.arr.setIfInBounds 10 (.int .i64 x) = CdV.arr { c with tf := x } := rfl
@[go_sem] theorem CdV.set11 (c : CdV) (x : Int) : c.arr.setIfInBounds 11 (.int .i64 x) = CdV.arr { c with says := x } := rfl
@[go_sem] theorem CdV.set12 (c : CdV) (s : Sl) : c.arr.setIfInBounds 12 s.val = CdV.arr { c with abs := s } := rfl
@[go_sem] theorem CdV.set12' (c : CdV) (b o n k : Nat) : c.arr.setIfInBounds 12 (.slice (some ⟨b, o, none⟩) n k) = CdV.arr { c with abs := .mk b o n k } := rfl
@[go_sem] theorem indexAt_cards (w : World) (s : Sl) (q : IntKind) (i : Int) (h0 : 0 ≤ i) (h1 : i < s.n) : (Instr.indexAt 175 s.val (.int q i)).run Tryz.prog w = .ok (.pointer (some ⟨s.b, s.o + i.toNat * 13, none⟩)) w :=
  run_indexAt_sl w Tryz.underlying175 (fun w => (by kernel_rfl : (sizeOf 44).run Tryz.prog w = .ok 13 w)) s q i h0 h1
@[go_sem ↓] theorem storeS_Abs (ρ : Operand → Value) (dst : Option Tmp) (x y : Operand) (ty : TypeId) (pos : String) (after : Array Edge) (guard : Option (Nat × Bool)) :
    execOp ρ { dst, op := .store 42 x y, type := ty, pos, after, guard } = stRow 42 (ρ x) (ρ y) := rfl
@[go_sem] theorem run_storeS_Abs (w : World) (b o : Nat) (s : Sl) (h : (w.cell? ⟨b, o, none⟩).isSome = true) (hf : w.frozen? ⟨b, o, none⟩ = false) : (stRow 42 (.pointer (some ⟨b, o, none⟩)) s.val).run Tryz.prog w = .ok .skip (w.setCell ⟨b, o, none⟩ s.val) :=
  run_stSl w b o 42 s (by kernel_rfl) h hf
/-- Cards 100 to 111. -/
def specialN (i : Nat) : CardN := if i = 8 then ⟨1, 1, 1, 0, [⟨1, 0, 0, 0, 0⟩, ⟨6, 0, 0, 0, 0⟩]⟩ else if i = 11 then ⟨1, 2, 3, 5, [⟨3, 0, 0, 0, 0⟩]⟩ else (earlyN ++ lateN).getD i ⟨0, 0, 0, 0, []⟩
theorem CardsOk.low {w : World} {k n : Nat} {l : List CdV} {m : List CardN} (h : CardsOk w n l m) (hk : k ≤ n) : CardsOk w k l m := ⟨h.1, fun i c d h1 h2 => (h.2 i c d h1 h2).low hk⟩
theorem CardOk.to {b : Nat} {w w1 w2 w3 : World} {m n : Nat} {c : CdV} {d : CardN} (h : CardOk w n c d) (g : Grow w w1) (ho : Off b w1 w2) (hb : b < n) (hm : m ≤ n) (g3 : Grow w2 w3) : CardOk w3 m c d :=
  (((h.grow g).off ho hb).low hm).grow g3
theorem CardOk.tune {w : World} {n : Nat} {c : CdV} {d : CardN} (h : CardOk w n c d) (p t s : Int) : CardOk w n { c with pw := p, tf := t, says := s } { d with pw := p, tf := t, says := s } := ⟨h.kind, rfl, rfl, rfl, h.abs⟩
theorem AbsOk.append {w : World} {n : Nat} {l l' : List AbV} {m m' : List AbN} (h : AbsOk w n l m) (h' : AbsOk w n l' m') : AbsOk w n (l ++ l') (m ++ m') := by
  induction h with
  | nil => exact h'
  | cons h _ ih => exact .cons h ih
theorem special_row {W : World} {y : Ext} {n i : Nat} (hi : i < 12) {l1 l2 : List CdV} {s2 : Sl} (h1 : ∀ c, c ∈ l1 → c.abs.c = c.abs.n) (h2 : ∀ c, c ∈ l2 → c.abs.c = c.abs.n) (o1 : CardsOk W n l1 earlyN) (o2 : CardsOk W n l2 lateN)
    (c1 : Cells (W.plus y) s2 13 (flatV (l1.map CdV.arr) ++ flatV (l2.map CdV.arr))) :
    ∃ c : CdV, s2.b < (W.plus y).heap.size ∧ s2.o + i * 13 + 13 ≤ ((W.plus y).blk s2.b).size ∧ sub ((W.plus y).blk s2.b) (s2.o + i * 13) 13 = c.arr ∧ c.abs.c = c.abs.n ∧ CardOk W n c ((earlyN ++ lateN).getD i ⟨0, 0, 0, 0, []⟩) ∧ True := by
  have hR := Cells.rowsV (l := (l1 ++ l2).map CdV.arr) (by rw [List.map_append, flatV_append]; exact c1) (by decide) (fun x hx => by obtain ⟨c, _, rfl⟩ := List.mem_map.1 hx; exact CdV.size c)
  have hO := o1.append o2
  have hl : (l1 ++ l2).length = 12 := hO.1
  have hc : (l1 ++ l2)[i]? = some (l1 ++ l2)[i] := List.getElem?_eq_getElem (by omega)
  obtain ⟨a1, a2, a3⟩ := hR.at (by decide) (i := i) (x := (l1 ++ l2)[i].arr) (by rw [List.getElem?_map, hc]; rfl)
  refine ⟨(l1 ++ l2)[i], a1, a2, a3, ?_, ?_, trivial⟩
  · rcases List.mem_append.1 (List.getElem_mem (by omega : i < (l1 ++ l2).length)) with h | h
    · exact h1 _ h
    · exact h2 _ h
  · have hm : (earlyN ++ lateN)[i]? = some ((earlyN ++ lateN).getD i ⟨0, 0, 0, 0, []⟩) := by
      have : i < (earlyN ++ lateN).length := hi
      rw [List.getD, List.getElem?_eq_getElem this]; rfl
    exact hO.2 i _ _ hc hm
set_option maxRecDepth 100000 in
set_option maxHeartbeats 2000000 in
theorem special_any (w : World) (i : Nat) (hi : i < 12) : Calls Tryz.prog 108 #[.int .i64 (i : Int)] w fun r w' => ∃ c : CdV, r = .returned (.agg c.arr) ∧ CardOk w' w.heap.size c (specialN i) ∧ Grow w w' := by
  have hi' : (i : Int) < 12 := by omega
  by_cases h8 : i = 8
  · have t8 : ((i : Int) == 8) = true := by simp; omega
    have HN : Hid (specialN i = ⟨1, 1, 1, 0, [⟨1, 0, 0, 0, 0⟩, ⟨6, 0, 0, 0, 0⟩]⟩ ∧ (earlyN ++ lateN).getD i ⟨0, 0, 0, 0, []⟩ = ⟨1, 0, 0, 0, [⟨1, 0, 0, 0, 0⟩]⟩) := by
      subst h8; exact ⟨rfl, rfl⟩
    clear h8
    go_enter Tryz.func108, Tryz.ntmps108
    go_wp2_with (first | (go_at_call 150; refine (early_any _).mono ?_; rintro e' w' ⟨⟨b1, l1, rfl, hn1, hr1, hc1, ho1⟩, nx, rfl⟩; have H1 := Lib.hid (And.intro hr1 (And.intro hc1 ho1)); clear hr1 hc1 ho1 hn1) | (go_at_call 151; refine (late_any _).mono ?_; rintro e' w' ⟨⟨b2, l2, rfl, hn2, hr2, hc2, ho2⟩, nx, rfl⟩; (try simp only [drew_plus] at hr2); (try simp only [plus_plus] at hr2); (try simp only [drew_plus] at ho2); (try simp only [plus_plus] at ho2); have H2 := Lib.hid (And.intro hr2 (And.intro hc2 ho2)); clear hr2 hc2 ho2 hn2) | (at_builtin; refine wpList_full rfl _ _ 175 rfl 44 Tryz.t44 (.agg (CdV.arr ⟨0, 0, false, 0, 0, 0, 0, 0, 0, 0, 0, 0, .nil⟩)) 13 120 Tryz.underlying175 (by kernel_rfl) (by kernel_rfl) (by kernel_rfl) (by kernel_rfl) (by omega) rfl (.mk b1 0 6 6) (.mk b2 0 6 6) (flatV (l1.map CdV.arr)) (flatV (l2.map CdV.arr)) rfl rfl (H1.out.1.grow grI).cells (by show 6 < 12; decide) (H2.out.1.grow grI).cells (flatV_one (by simp [CdV.one])) (by show 12 ≤ 4194304; decide) ?_; intro s2 y c1 c2 c3; obtain ⟨c, q1, q2, q3, q4, q5, q6⟩ := special_row hi H1.out.2.1 H2.out.2.1 (H1.out.2.2.grow grI) (H2.out.2.2.low (by first | (go_simp; done) | (go_simp; omega) | (simp only [Sl.b]; go_simp; omega))) c1; (try simp only [drew_plus] at q1); (try simp only [plus_plus] at q1); (try simp only [drew_plus] at q2); (try simp only [plus_plus] at q2); (try simp only [drew_plus] at q3); (try simp only [plus_plus] at q3); (rw [plus_size] at q1); (rw [blk_plus, if_neg (by simp only [plus_size, alloc_size'] at c3 ⊢; omega)] at q2 q3); have hs2 : s2.n = 12 := c2; have q0 : w.heap.size + 1 ≤ s2.b := (by simp only [plus_size, alloc_size'] at c3; omega); (simp only [alloc_size'] at q1); have Q := Lib.hid (And.intro q4 (And.intro q5 q6)); clear c1 c2 c3 q4 q5 q6))
    obtain ⟨l, hl1, hl0, hl2⟩ := Q.out.2.1.abs
    rw [HN.out.2] at hl2
    have HL := Lib.hid (And.intro hl1 (And.intro hl0 hl2))
    have HCN : Hid (c.abs.n = 1) := by
      have h1 := hl1.len
      rw [List.length_map] at h1
      cases hl2 with
      | cons _ h => cases h; exact h1
    clear hl1 hl0 hl2
    go_region_law (first | (refine step_wanted (by rfl) ?_; go_simp; go_at_call 136; refine (mana_any _ _ _).mono ?_; rintro e' w' ⟨rfl, nz, rfl⟩) | (refine step_full (by rfl) _ _ 42 rfl 38 Tryz.t38 (.agg (AbV.arr ⟨0, 0, 0, 0, 0, 0, 0, false, 0, ⟨0, 0, 0, 0, .nil⟩⟩)) 14 128 Tryz.underlying42 (by kernel_rfl) (by kernel_rfl) (by kernel_rfl) (by kernel_rfl) (by omega) rfl c.abs (.mk _ 0 1 1) (flatV (l.map AbV.arr)) (flatV [AbV.arr ⟨6, 0, 0, 0, 0, 0, 0, true, 0, ⟨15, 2, 5, 0, .nil⟩⟩]) rfl rfl (HL.out.1.grow grI).cells (by have := Q.out.1; show c.abs.c < c.abs.n + 1; omega) (RowsV.one (x := AbV.arr _) (by go_simp) (by go_simp) (by go_simp)).cells (flatV_one (by simp [AbV.one])) (by have := HCN.out; show c.abs.n + 1 ≤ 4194304; omega) ?_; intro s3 y3 c1 c2 c3; have C := Lib.hid (And.intro c1 (And.intro c2 c3)); clear c1 c2 c3))
    all_goals go_wp2_with fail
    all_goals refine bodyPost_ret (results_Card rfl _ _ _ rfl ?_) rfl ?_
    all_goals first | (go_simp; done) | skip
    all_goals
      obtain ⟨c1, c2, c3⟩ := C.out
      obtain ⟨hl1, hl0, hl2⟩ := HL.out
      have hq := Q.out.2.1
      rw [HN.out.2] at hq
      rw [HN.out.1]
      have hr := Cells.rowsV (l := l.map AbV.arr ++ [AbV.arr ⟨6, 0, 0, 0, 0, 0, 0, true, 0, ⟨15, 2, 5, 0, .nil⟩⟩]) (by rw [flatV_append]; exact c1) (by decide) (by
        intro x hx
        rcases List.mem_append.1 hx with h | h
        · obtain ⟨a, _, rfl⟩ := List.mem_map.1 h; exact AbV.size a
        · rw [List.mem_singleton.1 h]; exact AbV.size _)
      clear c1
      simp only [plus_size, alloc_size'] at c3
      refine ⟨{ c with pw := 1, tf := 1, abs := s3 }, by go_simp, ⟨hq.kind, rfl, rfl, hq.says, l ++ [⟨6, 0, 0, 0, 0, 0, 0, true, 0, ⟨15, 2, 5, 0, .nil⟩⟩], ?_, .inr ?_, ?_⟩, grI⟩
      · rw [List.map_append]
        exact ((hr.off (Off.plus (Off.alloc (Off.plus (Off.base _ _ _ _ rfl) _) _) _) (by simp only [plus_size, alloc_size']; omega)).off (b := w.heap.size) (Off.plus (Off.alloc (Off.plus (Off.alloc (Off.plus (Off.base w _ _ _ rfl) _) _) _) _) _) (by omega)).grow grI
      · show w.heap.size ≤ s3.b
        omega
      · refine AbsOk.append (m := [⟨1, 0, 0, 0, 0⟩]) ?_ (.cons (.of rfl (by decide)) .nil)
        exact (((hl2.off (b := w.heap.size) (Off.plus (Off.base w _ _ _ rfl) _) (by first | (go_simp; done) | (go_simp; omega) | (simp only [Sl.b]; go_simp; omega))).low (by first | (go_simp; done) | (go_simp; omega) | (simp only [Sl.b]; go_simp; omega))).grow grI)
  · by_cases h11 : i = 11
    · have t8 : ((i : Int) == 8) = false := by simp; omega
      have t11 : ((i : Int) == 11) = true := by simp; omega
      have HN : Hid (specialN i = ⟨1, 2, 3, 5, [⟨3, 0, 0, 0, 0⟩]⟩ ∧ (earlyN ++ lateN).getD i ⟨0, 0, 0, 0, []⟩ = ⟨1, 0, 0, 0, [⟨3, 0, 0, 0, 0⟩]⟩) := by
        subst h11; exact ⟨rfl, rfl⟩
      clear h11 h8
      go_enter Tryz.func108, Tryz.ntmps108
      go_wp2_with (first | (go_at_call 150; refine (early_any _).mono ?_; rintro e' w' ⟨⟨b1, l1, rfl, hn1, hr1, hc1, ho1⟩, nx, rfl⟩; have H1 := Lib.hid (And.intro hr1 (And.intro hc1 ho1)); clear hr1 hc1 ho1 hn1) | (go_at_call 151; refine (late_any _).mono ?_; rintro e' w' ⟨⟨b2, l2, rfl, hn2, hr2, hc2, ho2⟩, nx, rfl⟩; (try simp only [drew_plus] at hr2); (try simp only [plus_plus] at hr2); (try simp only [drew_plus] at ho2); (try simp only [plus_plus] at ho2); have H2 := Lib.hid (And.intro hr2 (And.intro hc2 ho2)); clear hr2 hc2 ho2 hn2) | (at_builtin; refine wpList_full rfl _ _ 175 rfl 44 Tryz.t44 (.agg (CdV.arr ⟨0, 0, false, 0, 0, 0, 0, 0, 0, 0, 0, 0, .nil⟩)) 13 120 Tryz.underlying175 (by kernel_rfl) (by kernel_rfl) (by kernel_rfl) (by kernel_rfl) (by omega) rfl (.mk b1 0 6 6) (.mk b2 0 6 6) (flatV (l1.map CdV.arr)) (flatV (l2.map CdV.arr)) rfl rfl (H1.out.1.grow grI).cells (by show 6 < 12; decide) (H2.out.1.grow grI).cells (flatV_one (by simp [CdV.one])) (by show 12 ≤ 4194304; decide) ?_; intro s2 y c1 c2 c3; obtain ⟨c, q1, q2, q3, q4, q5, q6⟩ := special_row hi H1.out.2.1 H2.out.2.1 (H1.out.2.2.grow grI) (H2.out.2.2.low (by first | (go_simp; done) | (go_simp; omega) | (simp only [Sl.b]; go_simp; omega))) c1; (try simp only [drew_plus] at q1); (try simp only [plus_plus] at q1); (try simp only [drew_plus] at q2); (try simp only [plus_plus] at q2); (try simp only [drew_plus] at q3); (try simp only [plus_plus] at q3); (rw [plus_size] at q1); (rw [blk_plus, if_neg (by simp only [plus_size, alloc_size'] at c3 ⊢; omega)] at q2 q3); have hs2 : s2.n = 12 := c2; have q0 : w.heap.size + 1 ≤ s2.b := (by simp only [plus_size, alloc_size'] at c3; omega); (simp only [alloc_size'] at q1); have Q := Lib.hid (And.intro q4 (And.intro q5 q6)); clear c1 c2 c3 q4 q5 q6))
      refine bodyPost_ret (results_Card rfl _ _ _ rfl ?_) rfl ?_
      · go_simp
      · refine ⟨{ c with pw := 2, tf := 3, says := 5 }, by go_simp, ?_, grI⟩
        have hq := Q.out.2.1
        rw [HN.out.2] at hq
        rw [HN.out.1]
        refine CardOk.tune (d := ⟨1, 0, 0, 0, [⟨3, 0, 0, 0, 0⟩]⟩) (c := c) ?_ 2 3 5
        exact hq.to (b := w.heap.size) grI (Off.plus (Off.base w _ _ _ rfl) _) (by first | (go_simp; done) | (go_simp; omega) | (simp only [Sl.b]; go_simp; omega)) (by first | (go_simp; done) | (go_simp; omega) | (simp only [Sl.b]; go_simp; omega)) grI
    · have t8 : ((i : Int) == 8) = false := by simp; omega
      have t11 : ((i : Int) == 11) = false := by simp; omega
      have HN : Hid (specialN i = (earlyN ++ lateN).getD i ⟨0, 0, 0, 0, []⟩) := by rw [Hid, specialN, if_neg h8, if_neg h11]
      go_enter Tryz.func108, Tryz.ntmps108
      go_wp2_with (first | (go_at_call 150; refine (early_any _).mono ?_; rintro e' w' ⟨⟨b1, l1, rfl, hn1, hr1, hc1, ho1⟩, nx, rfl⟩; have H1 := Lib.hid (And.intro hr1 (And.intro hc1 ho1)); clear hr1 hc1 ho1 hn1) | (go_at_call 151; refine (late_any _).mono ?_; rintro e' w' ⟨⟨b2, l2, rfl, hn2, hr2, hc2, ho2⟩, nx, rfl⟩; (try simp only [drew_plus] at hr2); (try simp only [plus_plus] at hr2); (try simp only [drew_plus] at ho2); (try simp only [plus_plus] at ho2); have H2 := Lib.hid (And.intro hr2 (And.intro hc2 ho2)); clear hr2 hc2 ho2 hn2) | (at_builtin; refine wpList_full rfl _ _ 175 rfl 44 Tryz.t44 (.agg (CdV.arr ⟨0, 0, false, 0, 0, 0, 0, 0, 0, 0, 0, 0, .nil⟩)) 13 120 Tryz.underlying175 (by kernel_rfl) (by kernel_rfl) (by kernel_rfl) (by kernel_rfl) (by omega) rfl (.mk b1 0 6 6) (.mk b2 0 6 6) (flatV (l1.map CdV.arr)) (flatV (l2.map CdV.arr)) rfl rfl (H1.out.1.grow grI).cells (by show 6 < 12; decide) (H2.out.1.grow grI).cells (flatV_one (by simp [CdV.one])) (by show 12 ≤ 4194304; decide) ?_; intro s2 y c1 c2 c3; obtain ⟨c, q1, q2, q3, q4, q5, q6⟩ := special_row hi H1.out.2.1 H2.out.2.1 (H1.out.2.2.grow grI) (H2.out.2.2.low (by first | (go_simp; done) | (go_simp; omega) | (simp only [Sl.b]; go_simp; omega))) c1; (try simp only [drew_plus] at q1); (try simp only [plus_plus] at q1); (try simp only [drew_plus] at q2); (try simp only [plus_plus] at q2); (try simp only [drew_plus] at q3); (try simp only [plus_plus] at q3); (rw [plus_size] at q1); (rw [blk_plus, if_neg (by simp only [plus_size, alloc_size'] at c3 ⊢; omega)] at q2 q3); have hs2 : s2.n = 12 := c2; have q0 : w.heap.size + 1 ≤ s2.b := (by simp only [plus_size, alloc_size'] at c3; omega); (simp only [alloc_size'] at q1); have Q := Lib.hid (And.intro q4 (And.intro q5 q6)); clear c1 c2 c3 q4 q5 q6))
      refine bodyPost_ret (results_Card rfl _ _ _ rfl ?_) rfl ?_
      · go_simp
      · refine ⟨c, by go_simp, ?_, grI⟩
        rw [HN.out]
        exact Q.out.2.1.to (b := w.heap.size) grI (Off.plus (Off.base w _ _ _ rfl) _) (by first | (go_simp; done) | (go_simp; omega) | (simp only [Sl.b]; go_simp; omega)) (by first | (go_simp; done) | (go_simp; omega) | (simp only [Sl.b]; go_simp; omega)) grI
end Go.Proofs.YtkbghjfagnjpoaaGreatDoor
namespace Go.Proofs.YtkbghjfagnjpoaaGreatDoor
open Go Go.RowKit

@[go_sem] theorem run_build_beast (w : World) (a p t s : Int) (c0 c1 c2 c3 c4 c5 : Int) : (bdRow 44 #[(0, .int .i64 1), (1, .int .i64 a), (3, .agg (cellsOf [c0, c1, c2, c3, c4, c5])), (4, .int .i64 p), (5, .int .i64 t), (6, .int .i64 s)]).run Tryz.prog w = .ok (.value (.agg (CdV.arr ⟨1, a, false, c0, c1, c2, c3, c4, c5, p, t, s, .nil⟩))) w := by kernel_rfl
@[go_sem] theorem run_storeX_Abs (w : World) (b o sb so n c : Nat) (h : (w.cell? ⟨b, o, none⟩).isSome = true) (hf : w.frozen? ⟨b, o, none⟩ = false) : (stRow 42 (.pointer (some ⟨b, o, none⟩)) (.slice (some ⟨sb, so, none⟩) n c)).run Tryz.prog w = .ok .skip (w.setCell ⟨b, o, none⟩ (.slice (some ⟨sb, so, none⟩) n c)) :=
  run_stSl w b o 42 (.mk sb so n c) (by kernel_rfl) h hf
/-- Cards 10 to 49. -/
def beastN (i : Nat) : CardN :=
  if ((i : Int) % 5 == 0) = true then ⟨1, (i : Int) / 5 / 2 + 1, ((i : Int) / 5 + 1) / 2 + 1, wrap64 (2 ^ (i / 5)), [⟨2, 0, 0, 0, 0⟩]⟩
  else if ((i : Int) % 5 == 1) = true then ⟨1, (i : Int) / 5 / 2 + 1, ((i : Int) / 5 + 1) / 2 + 1, wrap64 (2 ^ (i / 5)), if ((i : Int) / 5 % 2 == 1) = true then [⟨2, 0, 0, 0, 0⟩] else []⟩
  else if ((i : Int) % 5 == 2) = true then ⟨1, (i : Int) / 5 / 2 + 1, ((i : Int) / 5 + 1) / 2 + 1, wrap64 (2 ^ (i / 5)), [⟨3, 0, 0, 0, 0⟩]⟩
  else if ((i : Int) % 5 == 3) = true then ⟨1, (i : Int) / 5 / 2 + 1 + 1, ((i : Int) / 5 + 1) / 2 + 1, wrap64 (2 ^ (i / 5)), [⟨1, 0, 0, 0, 0⟩]⟩
  else ⟨1, (i : Int) / 5 / 2 + 1, ((i : Int) / 5 + 1) / 2 + 1 + 1, wrap64 (2 ^ (i / 5)), [⟨1, 0, 0, 0, 0⟩]⟩
set_option maxRecDepth 100000 in
set_option maxHeartbeats 2000000 in
theorem beast_any (w : World) (i : Nat) (hi : i < 40) : Calls Tryz.prog 104 #[.int .i64 (i : Int)] w fun r w' => ∃ c : CdV, r = .returned (.agg c.arr) ∧ CardOk w' w.heap.size c (beastN i) ∧ Grow w w' := by
  go_enter Tryz.func104, Tryz.ntmps104
  go_wp2_with (first | (go_at_call 138; refine (tdo_any _ _ _ _ _).mono ?_; rintro e' w' ⟨rfl, nx, rfl⟩) | (go_at_call 137; refine (when_any _ _ _).mono ?_; rintro e' w' ⟨rfl, nx, rfl⟩) | (go_at_call 105; refine (cost_any _ _ _ _ (by omega) (by omega)).mono ?_; rintro e' w' ⟨d0, d1, d2, d3, d4, d5, rfl, nx, rfl⟩) | (go_at_call 139; refine (active_any _ _ _ _ _ _ _ _ _ _).mono ?_; rintro e' w' ⟨rfl, nx, rfl⟩))
  all_goals refine bodyPost_ret (results_Card rfl _ _ _ rfl ?_) rfl ?_
  all_goals first | (go_simp; done) | skip
  all_goals simp only [beastN, *, if_true, if_false, Bool.false_eq_true]
  all_goals refine ⟨_, (by go_simp; rfl), ⟨rfl, rfl, rfl, rfl, ?_⟩, grI⟩
  all_goals first | exact ⟨[], RowsV.nil _ _, .inl rfl, .nil⟩ | exact ⟨[_], RowsV.one (x := AbV.arr _) (by go_simp) (by go_simp; rfl) (by go_simp), .inr (by first | (go_simp; done) | (go_simp; omega) | (simp only [Sl.b]; go_simp; omega)), .cons (.of rfl (by decide)) .nil⟩
end Go.Proofs.YtkbghjfagnjpoaaGreatDoor
namespace Go.Proofs.YtkbghjfagnjpoaaGreatDoor
open Go Go.RowKit

theorem results2_Card {fn : Func} {p q : Tmp} (h : fn.results = #[.cell p 44, .tmp q]) (tmps : Array Value) (w : World) (b : Nat) (hp : tmps.getD p undef = .pointer (some ⟨b, 0, none⟩)) (h1 : (w.blk b).size = 13) :
    (results fn tmps).run Tryz.prog w = .ok (.tuple #[.agg (sub (w.blk b) 0 13), tmps.getD q undef]) w := by
  unfold results
  rw [h]
  have e1 := loadVar_Card w b h1
  have hp' : tmps[p]?.getD undef = .pointer (some ⟨b, 0, none⟩) := by simpa using hp
  simp [asAddr, hp', e1]
@[go_sem] theorem index_ab54 (w : World) (cs : Array Value) (q : IntKind) (i : Int) (h0 : 0 ≤ i) (h1 : i < 5) : (Instr.index 145 (.agg cs) (.int q i)).run Tryz.prog w = .ok (.agg (sub cs (i.toNat * 56) 56)) w :=
  run_index_part w 145 144 5 56 Tryz.underlying145 (fun w => by kernel_rfl) (fun w => by kernel_rfl) cs q i h0 h1
@[go_sem] theorem index_ab4 (w : World) (cs : Array Value) (q : IntKind) (i : Int) (h0 : 0 ≤ i) (h1 : i < 4) : (Instr.index 144 (.agg cs) (.int q i)).run Tryz.prog w = .ok (.agg (sub cs (i.toNat * 14) 14)) w :=
  run_index_part w 144 38 4 14 Tryz.underlying144 (fun w => by kernel_rfl) (fun w => by kernel_rfl) cs q i h0 h1
@[go_sem] theorem index_ab56 (w : World) (cs : Array Value) (q : IntKind) (i : Int) (h0 : 0 ≤ i) (h1 : i < 5) : (Instr.index 142 (.agg cs) (.int q i)).run Tryz.prog w = .ok (.agg (sub cs (i.toNat * 84) 84)) w :=
  run_index_part w 142 141 5 84 Tryz.underlying142 (fun w => by kernel_rfl) (fun w => by kernel_rfl) cs q i h0 h1
@[go_sem] theorem index_ab6 (w : World) (cs : Array Value) (q : IntKind) (i : Int) (h0 : 0 ≤ i) (h1 : i < 6) : (Instr.index 141 (.agg cs) (.int q i)).run Tryz.prog w = .ok (.agg (sub cs (i.toNat * 14) 14)) w :=
  run_index_part w 141 38 6 14 Tryz.underlying141 (fun w => by kernel_rfl) (fun w => by kernel_rfl) cs q i h0 h1
@[go_sem] theorem run_build_spell (w : World) (a : Int) (f : Bool) (c0 c1 c2 c3 c4 c5 : Int) (k o n c : Nat) : (bdRow 44 #[(0, .int .i64 2), (1, .int .i64 a), (2, .bool f), (3, .agg (cellsOf [c0, c1, c2, c3, c4, c5])), (7, .slice (some ⟨k, o, none⟩) n c)]).run Tryz.prog w = .ok (.value (.agg (CdV.arr ⟨2, a, f, c0, c1, c2, c3, c4, c5, 0, 0, 0, .mk k o n c⟩))) w := by kernel_rfl
@[go_sem] theorem run_build_relic (w : World) (a : Int) (c0 c1 c2 c3 c4 c5 : Int) (k o n c : Nat) : (bdRow 44 #[(0, .int .i64 3), (1, .int .i64 a), (3, .agg (cellsOf [c0, c1, c2, c3, c4, c5])), (7, .slice (some ⟨k, o, none⟩) n c)]).run Tryz.prog w = .ok (.value (.agg (CdV.arr ⟨3, a, false, c0, c1, c2, c3, c4, c5, 0, 0, 0, .mk k o n c⟩))) w := by kernel_rfl
@[go_sem] theorem run_build_token (w : World) (p t s : Int) : (bdRow 44 #[(0, .int .i64 1), (1, .int .i64 5), (4, .int .i64 p), (5, .int .i64 t), (6, .int .i64 s)]).run Tryz.prog w = .ok (.value (.agg (CdV.arr ⟨1, 5, false, 0, 0, 0, 0, 0, 0, p, t, s, .nil⟩))) w := by kernel_rfl
/-- Cards 112 to 119. -/
def tokenN (k : Nat) : CardN := ⟨1, (k : Int) / 2 + 1, (k : Int) / 2 + 1, (k : Int) % 2, []⟩
/-- Any card. -/
def cardN (n : Nat) : CardN :=
  if n < 10 then sourceN n else if n < 50 then beastN (n - 10) else if n < 80 then ⟨2, 0, 0, 0, [⟨0, 0, 0, 0, 0⟩]⟩
  else if n < 100 then ⟨3, 0, 0, 0, [relicN ((n - 80) % 5) ((n - 80) / 5)]⟩ else if n < 112 then specialN (n - 100) else tokenN (n - 112)
/-- What the table answers to a card's number. -/
def CardSaid (w w' : World) (r : Ending) (d : CardN) : Prop := ∃ c : CdV, r = .returned (.tuple #[.agg c.arr, .nilIface]) ∧ CardOk w' w.heap.size c d ∧ Grow w w'
set_option maxRecDepth 100000 in
set_option maxHeartbeats 2000000 in
theorem card_source (w : World) (n : Nat) (hn : n < 10) : Calls Tryz.prog 64 #[.int .i64 (n : Int)] w fun r w' => CardSaid w w' r (sourceN n) := by
  go_enter Tryz.func64, Tryz.ntmps64
  go_wp2_with (go_at_call 103; refine (source_any _ n hn).mono ?_; rintro e' w' ⟨c, rfl, hc, nx, rfl⟩; have HC := Lib.hid hc; clear hc)
  refine bodyPost_ret (results2_Card rfl _ _ _ rfl ?_) rfl ?_
  · go_simp
  · exact ⟨c, by go_simp, HC.out.to (b := w.heap.size) grI (Off.plus (Off.base w _ _ _ rfl) _) (by first | (go_simp; done) | (go_simp; omega) | (simp only [Sl.b]; go_simp; omega)) (by first | (go_simp; done) | (go_simp; omega) | (simp only [Sl.b]; go_simp; omega)) grI, grI⟩
set_option maxRecDepth 100000 in
set_option maxHeartbeats 2000000 in
theorem card_beast (w : World) (n : Nat) (hn : n < 40) : Calls Tryz.prog 64 #[.int .i64 ((n : Int) + 10)] w fun r w' => CardSaid w w' r (beastN n) := by
  go_enter Tryz.func64, Tryz.ntmps64
  go_wp2_with (go_at_call 104; refine (beast_any _ n hn).mono ?_; rintro e' w' ⟨c, rfl, hc, nx, rfl⟩; have HC := Lib.hid hc; clear hc)
  refine bodyPost_ret (results2_Card rfl _ _ _ rfl ?_) rfl ?_
  · go_simp
  · exact ⟨c, by go_simp, HC.out.to (b := w.heap.size) grI (Off.plus (Off.base w _ _ _ rfl) _) (by first | (go_simp; done) | (go_simp; omega) | (simp only [Sl.b]; go_simp; omega)) (by first | (go_simp; done) | (go_simp; omega) | (simp only [Sl.b]; go_simp; omega)) grI, grI⟩
set_option maxRecDepth 100000 in
set_option maxHeartbeats 2000000 in
theorem card_special (w : World) (n : Nat) (hn : n < 12) : Calls Tryz.prog 64 #[.int .i64 ((n : Int) + 100)] w fun r w' => CardSaid w w' r (specialN n) := by
  go_enter Tryz.func64, Tryz.ntmps64
  go_wp2_with (go_at_call 108; refine (special_any _ n hn).mono ?_; rintro e' w' ⟨c, rfl, hc, nx, rfl⟩; have HC := Lib.hid hc; clear hc)
  refine bodyPost_ret (results2_Card rfl _ _ _ rfl ?_) rfl ?_
  · go_simp
  · exact ⟨c, by go_simp, HC.out.to (b := w.heap.size) grI (Off.plus (Off.base w _ _ _ rfl) _) (by first | (go_simp; done) | (go_simp; omega) | (simp only [Sl.b]; go_simp; omega)) (by first | (go_simp; done) | (go_simp; omega) | (simp only [Sl.b]; go_simp; omega)) grI, grI⟩
set_option maxRecDepth 100000 in
set_option maxHeartbeats 2000000 in
theorem card_token (w : World) (n : Nat) (hn : n < 8) : Calls Tryz.prog 64 #[.int .i64 ((n : Int) + 112)] w fun r w' => CardSaid w w' r (tokenN n) := by
  go_enter Tryz.func64, Tryz.ntmps64
  go_wp2_with fail
  refine bodyPost_ret (results2_Card rfl _ _ _ rfl ?_) rfl ?_
  · go_simp
  · refine ⟨_, (by go_simp; rfl), ⟨rfl, rfl, rfl, rfl, [], RowsV.nil _ _, .inl rfl, .nil⟩, grI⟩
set_option maxRecDepth 100000 in
set_option maxHeartbeats 2000000 in
theorem card_spell (w : World) (n : Nat) (hn : n < 30) : Calls Tryz.prog 64 #[.int .i64 ((n : Int) + 50)] w fun r w' => CardSaid w w' r ⟨2, 0, 0, 0, [⟨0, 0, 0, 0, 0⟩]⟩ := by
  have d1 : 0 ≤ (n : Int) % 5 ∧ (n : Int) % 5 < 5 := by omega
  have d2 : 0 ≤ (n : Int) / 5 ∧ (n : Int) / 5 < 6 := by omega
  go_enter Tryz.func64, Tryz.ntmps64
  go_wp2_with (first | (go_at_call 105; refine (cost_any _ _ _ _ (by omega) (by omega)).mono ?_; rintro e' w' ⟨d0, d1, d2, d3, d4, d5, rfl, nx, rfl⟩) | (go_at_call 106; refine (spells_any _).mono ?_; rintro e' w' ⟨x, rfl, hx, nx, rfl⟩; obtain ⟨a, ha, ha0⟩ := hx (n % 5) (n / 5) (by omega) (by omega); have HX := Lib.hid ha0; clear hx ha0))
  refine bodyPost_ret (results2_Card rfl _ _ _ rfl ?_) rfl ?_
  · go_simp
  · refine ⟨_, (by go_simp; rfl), ⟨rfl, rfl, rfl, rfl, ?_⟩, grI⟩
    exact ⟨[a], RowsV.one (x := AbV.arr a) (by go_simp) (by go_simp) (by go_simp), .inr (by first | (go_simp; done) | (go_simp; omega) | (simp only [Sl.b]; go_simp; omega)), .cons (.of HX.out (by decide)) .nil⟩
set_option maxRecDepth 100000 in
set_option maxHeartbeats 2000000 in
theorem card_relic (w : World) (n : Nat) (hn : n < 20) : Calls Tryz.prog 64 #[.int .i64 ((n : Int) + 80)] w fun r w' => CardSaid w w' r ⟨3, 0, 0, 0, [relicN (n % 5) (n / 5)]⟩ := by
  have d1 : 0 ≤ (n : Int) % 5 ∧ (n : Int) % 5 < 5 := by omega
  have d2 : 0 ≤ (n : Int) / 5 ∧ (n : Int) / 5 < 4 := by omega
  go_enter Tryz.func64, Tryz.ntmps64
  go_wp2_with (first | (go_at_call 105; refine (cost_any _ _ _ _ (by omega) (by omega)).mono ?_; rintro e' w' ⟨d0, d1, d2, d3, d4, d5, rfl, nx, rfl⟩) | (go_at_call 107; refine (relics_any _).mono ?_; rintro e' w' ⟨x, rfl, hx, nx, rfl⟩; obtain ⟨a, ha, ha0⟩ := hx (n % 5) (n / 5) (by omega) (by omega); (try simp only [drew_plus] at ha0); (try simp only [plus_plus] at ha0); have HX := Lib.hid ha0; clear hx ha0))
  refine bodyPost_ret (results2_Card rfl _ _ _ rfl ?_) rfl ?_
  · go_simp
  · rename_i n1
    refine ⟨_, (by go_simp; rfl), ⟨rfl, rfl, rfl, rfl, ?_⟩, grI⟩
    refine ⟨[a], RowsV.one (x := AbV.arr a) (by go_simp) (by go_simp) (by go_simp), .inr (by first | (go_simp; done) | (go_simp; omega) | (simp only [Sl.b]; go_simp; omega)), .cons ?_ .nil⟩
    exact ((HX.out.off (b := w.heap.size) (Off.plus (Off.base w _ _ _ rfl) _) (by first | (go_simp; done) | (go_simp; omega) | (simp only [Sl.b]; go_simp; omega))).low (by first | (go_simp; done) | (go_simp; omega) | (simp only [Sl.b]; go_simp; omega))).grow grI
theorem card_any (w : World) (n : Nat) (hn : n < 120) : Calls Tryz.prog 64 #[.int .i64 (n : Int)] w fun r w' => CardSaid w w' r (cardN n) := by
  unfold cardN
  split
  · exact card_source w n (by assumption)
  · split
    · obtain ⟨m, rfl⟩ : ∃ m, n = m + 10 := ⟨n - 10, by omega⟩
      have h := card_beast w m (by omega)
      rw [Nat.add_sub_cancel]; exact h
    · split
      · obtain ⟨m, rfl⟩ : ∃ m, n = m + 50 := ⟨n - 50, by omega⟩
        exact card_spell w m (by omega)
      · split
        · obtain ⟨m, rfl⟩ : ∃ m, n = m + 80 := ⟨n - 80, by omega⟩
          have h := card_relic w m (by omega)
          rw [Nat.add_sub_cancel]; exact h
        · split
          · obtain ⟨m, rfl⟩ : ∃ m, n = m + 100 := ⟨n - 100, by omega⟩
            have h := card_special w m (by omega)
            rw [Nat.add_sub_cancel]; exact h
          · obtain ⟨m, rfl⟩ : ∃ m, n = m + 112 := ⟨n - 112, by omega⟩
            have h := card_token w m (by omega)
            rw [Nat.add_sub_cancel]; exact h
end Go.Proofs.YtkbghjfagnjpoaaGreatDoor
