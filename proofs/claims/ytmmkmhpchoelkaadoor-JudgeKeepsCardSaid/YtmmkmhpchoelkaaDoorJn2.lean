/-
  The walk of slices.BinarySearchFunc over a journal's checkpoints, and of the journal's find.
  Slice expressions: what stands from a place on; what stands ahead of one, with no room behind it.
-/
import Derived.Test.YtmmkmhpchoelkaaDoorJn
namespace Go.Proofs.YtmmkmhpchoelkaaDoor
open Go Go.RowKit Go.Shelf

theorem isNaN_any (a : Int) (w : World) : Calls Tryd.prog 119 #[.int .i64 a] w fun e w' => e = .returned (.bool false) ∧ w' = w := by
  go_enter Tryd.func119, Tryd.ntmps119
  go_wp2_with fail
  go_ret
  exact ⟨ret_bool (by simp), rfl⟩
def cmpI (a b : Int) : Int := if a < b then -1 else if b < a then 1 else 0
theorem compare_any (a b : Int) (w : World) : Calls Tryd.prog 107 #[.int .i64 a, .int .i64 b] w fun e w' => e = .returned (.int .i64 (cmpI a b)) ∧ w' = w := by
  have : a < b ∨ b < a ∨ a = b := by omega
  rcases this with h | h | h
  · have e : cmpI a b = -1 := by unfold cmpI; rw [if_pos h]
    rw [e]
    go_enter Tryd.func107, Tryd.ntmps107
    go_wp2_with (go_at_call 119; refine (isNaN_any _ _).mono ?_; rintro e' w' ⟨rfl, hww⟩; subst w')
    go_ret
    exact ⟨rfl, rfl⟩
  · have e : cmpI a b = 1 := by unfold cmpI; rw [if_neg (by omega), if_pos h]
    have h2 : ¬ a < b := by omega
    rw [e]
    go_enter Tryd.func107, Tryd.ntmps107
    go_wp2_with (go_at_call 119; refine (isNaN_any _ _).mono ?_; rintro e' w' ⟨rfl, hww⟩; subst w')
    go_ret
    exact ⟨rfl, rfl⟩
  · subst h
    have e : cmpI a a = 0 := by unfold cmpI; rw [if_neg (by omega), if_neg (by omega)]
    rw [e]
    have h2 : ¬ a < a := by omega
    go_enter Tryd.func107, Tryd.ntmps107
    go_wp2_with (go_at_call 119; refine (isNaN_any _ _).mono ?_; rintro e' w' ⟨rfl, hww⟩; subst w')
    go_ret
    exact ⟨rfl, rfl⟩
theorem jcmp_any (m : List Int) (hm : m.length = 2) (c : Int) (w : World) :
    Calls Tryd.prog 106 #[.agg (cellsOf m), .int .i64 c] w fun e w' => e = .returned (.int .i64 (cmpI (gt m 0) c)) ∧ Grow w w' := by
  go_enter Tryd.func106, Tryd.ntmps106
  go_wp2_with (go_at_call 107; refine (compare_any _ _ _).mono ?_; rintro e' w' ⟨rfl, hww⟩; subst w')
  go_ret
  exact ⟨rfl, (by repeat (first | exact Grow.refl _ | refine Grow.andr ?_ | refine Grow.plus ?_ _ | refine Grow.alloc ?_ _ | refine Grow.drew ?_ | refine Grow.drewN ?_ _))⟩
/-- The checkpoints stand in order. -/
def Sorted (l : List (List Int)) : Prop := ∀ i j, i < j → j < l.length → gt (rowAt l i) 0 < gt (rowAt l j) 0
/-- How many checkpoints are ahead of a number. -/
def ahead (l : List (List Int)) (c : Int) : Nat := l.countP fun m => decide (gt m 0 < c)
theorem ahead_boundary (c : Int) : ∀ (l : List (List Int)) (i : Nat), i ≤ l.length → (∀ t, t < i → gt (rowAt l t) 0 < c) → (∀ t, i ≤ t → t < l.length → c ≤ gt (rowAt l t) 0) → ahead l c = i
  | [], i, hi, _, _ => by simp at hi; subst hi; rfl
  | a :: r, 0, _, _, h2 => by
    unfold ahead
    rw [List.countP_eq_zero]
    intro x hx
    obtain ⟨t, ht, rfl⟩ := List.getElem_of_mem hx
    have := h2 t (Nat.zero_le _) ht
    have e : rowAt (a :: r) t = (a :: r)[t] := by simp only [rowAt, List.getD]; rw [List.getElem?_eq_getElem ht]; rfl
    rw [e] at this
    simp; omega
  | a :: r, i + 1, hi, h1, h2 => by
    have ha : gt a 0 < c := h1 0 (Nat.succ_pos _)
    have ih := ahead_boundary c r i (by simpa using hi) (fun t ht => h1 (t + 1) (by omega)) (fun t h3 h4 => h2 (t + 1) (by omega) (by simpa using h4))
    unfold ahead at ih ⊢
    rw [List.countP_cons_of_pos (by simpa using ha), ih]
@[go_sem] theorem indexAt_marks (w : World) (s : Sl) (q : IntKind) (i : Int) (h0 : 0 ≤ i) (h1 : i < s.n) : (Instr.indexAt 94 s.val (.int q i)).run Tryd.prog w = .ok (.pointer (some ⟨s.b, s.o + i.toNat * 2, none⟩)) w :=
  run_indexAt_sl w Tryd.underlying94 (fun w => (by kernel_rfl : (sizeOf 100).run Tryd.prog w = .ok 2 w)) s q i h0 h1
set_option maxRecDepth 100000 in
set_option maxHeartbeats 2000000 in
theorem bsearch_any (w : World) (s : Sl) (l : List (List Int)) (R : Rows' w s 2 l) (hs : Sorted l) (hn : l.length ≤ 1048576) (c : Int) :
    Calls Tryd.prog 105 #[s.val, .int .i64 c, .func (.func 106) #[] #[]] w fun e w' => e = .returned (.tuple #[.int .i64 (ahead l c), .bool (decide (ahead l c < l.length) && gt (rowAt l (ahead l c)) 0 == c)]) ∧ Grow w w' := by
  have hsn := R.len
  have HR := Lib.hid R
  have HS := Lib.hid hs
  clear R hs
  generalize hna : ahead l c = na
  have HNA := Lib.hid hna
  generalize hfin : (decide (na < l.length) && gt (rowAt l na) 0 == c) = fin
  have HFIN := Lib.hid hfin
  clear hna hfin
  go_enter Tryd.func105, Tryd.ntmps105
  go_wp2_with fail
  go_loopw [9, 10] (fun s9 s10 wr => ∃ (lo hi : Nat) (x : Ext), s9 = .int .i64 lo ∧ s10 = .int .i64 hi ∧ lo ≤ hi ∧ hi ≤ l.length ∧ wr = w.plus x ∧ Hid ((∀ t, t < lo → gt (rowAt l t) 0 < c) ∧ (∀ t, hi ≤ t → t < l.length → c ≤ gt (rowAt l t) 0))) (fun s9 s10 _ => (intOf s10 - intOf s9).toNat)
  case atStart => exact ⟨0, l.length, Ext.none, rfl, rfl, Nat.zero_le _, Nat.le_refl _, (plus_none _).symm, (⟨fun t ht => absurd ht (Nat.not_lt_zero _), fun t h1 h2 => by omega⟩ : (∀ t, t < 0 → gt (rowAt l t) 0 < c) ∧ (∀ t, l.length ≤ t → t < l.length → c ≤ gt (rowAt l t) 0))⟩
  case round =>
    obtain ⟨lo, hi, x, rfl, rfl, hlh, hin, rfl, I⟩ := hrel
    by_cases hlt : lo < hi
    · obtain ⟨qb, qw, qsz, qsub, _⟩ := HR.out.at (by omega) ((lo + hi) / 2) (by omega)
      have hcm := jcmp_any (rowAt l ((lo + hi) / 2)) qw c
      have i0 : (0 : Int) ≤ ((lo : Int) + hi) / 2 := by omega
      have i1 : ((lo : Int) + hi) / 2 < l.length := by omega
      have i2 : (((lo : Int) + hi) / 2).toNat = (lo + hi) / 2 := by omega
      have HC := Lib.hid hcm
      clear hcm
      by_cases hyx : gt (rowAt l ((lo + hi) / 2)) 0 < c
      · have hc : cmpI (gt (rowAt l ((lo + hi) / 2)) 0) c = -1 := by unfold cmpI; rw [if_pos hyx]
        go_wp2_with (go_at_call 106; refine (HC.out _).mono ?_; rintro e w' ⟨rfl, nx, rfl⟩)
        go_roundw
        case rel => exact ⟨(lo + hi) / 2 + 1, hi, _, by go_num, rfl, by omega, hin, by first | rfl | exact plus_plus _ _ _, (⟨fun t ht => by
          by_cases e : t = (lo + hi) / 2
          · rw [e]; exact hyx
          · exact Int.lt_trans (HS.out t ((lo + hi) / 2) (by omega) (by omega)) hyx, I.out.2⟩ : (∀ t, t < (lo + hi) / 2 + 1 → gt (rowAt l t) 0 < c) ∧ (∀ t, hi ≤ t → t < l.length → c ≤ gt (rowAt l t) 0))⟩
        case measure => simp [intOf]; omega
      · have hc : cmpI (gt (rowAt l ((lo + hi) / 2)) 0) c = if c < gt (rowAt l ((lo + hi) / 2)) 0 then 1 else 0 := by unfold cmpI; rw [if_neg hyx]
        have hc2 : 0 ≤ cmpI (gt (rowAt l ((lo + hi) / 2)) 0) c := by rw [hc]; split <;> omega
        clear hc
        go_wp2_with (go_at_call 106; refine (HC.out _).mono ?_; rintro e w' ⟨rfl, nx, rfl⟩)
        go_roundw
        case rel => exact ⟨lo, (lo + hi) / 2, _, rfl, by go_num, by omega, by omega, by first | rfl | exact plus_plus _ _ _, (⟨I.out.1, fun t h1 h2 => by
          by_cases e : t = (lo + hi) / 2
          · rw [e]; omega
          · have := HS.out ((lo + hi) / 2) t (by omega) h2; omega⟩ : (∀ t, t < lo → gt (rowAt l t) 0 < c) ∧ (∀ t, (lo + hi) / 2 ≤ t → t < l.length → c ≤ gt (rowAt l t) 0))⟩
        case measure => simp [intOf]; omega
    · obtain rfl : hi = lo := by omega
      obtain rfl : hi = na := by
        rw [← HNA.out]
        exact (ahead_boundary c l hi hin I.out.1 I.out.2).symm
      by_cases hn : hi < l.length
      · obtain ⟨qb, qw, qsz, qsub, _⟩ := HR.out.at (by omega) hi hn
        have HC := Lib.hid (jcmp_any (rowAt l hi) qw c)
        by_cases hyx : gt (rowAt l hi) 0 = c
        · have hc : cmpI (gt (rowAt l hi) 0) c = 0 := by unfold cmpI; rw [if_neg (by omega), if_neg (by omega)]
          obtain rfl : fin = true := by rw [← HFIN.out]; simp [hn, hyx]
          clear hyx
          go_wp2_with (go_at_call 106; refine (HC.out _).mono ?_; rintro e w' ⟨rfl, nx, rfl⟩)
          go_ret2
          exact ⟨rfl, (by repeat (first | exact Grow.refl _ | refine Grow.andr ?_ | refine Grow.plus ?_ _ | refine Grow.alloc ?_ _ | refine Grow.drew ?_ | refine Grow.drewN ?_ _))⟩
        · have hc : (cmpI (gt (rowAt l hi) 0) c == 0) = false := by unfold cmpI; split; rfl; split; rfl; omega
          obtain rfl : fin = false := by rw [← HFIN.out]; simp [hyx]
          clear hyx
          go_wp2_with (go_at_call 106; refine (HC.out _).mono ?_; rintro e w' ⟨rfl, nx, rfl⟩)
          go_ret2
          exact ⟨rfl, (by repeat (first | exact Grow.refl _ | refine Grow.andr ?_ | refine Grow.plus ?_ _ | refine Grow.alloc ?_ _ | refine Grow.drew ?_ | refine Grow.drewN ?_ _))⟩
      · obtain rfl : fin = false := by rw [← HFIN.out]; simp [hn]
        go_wp2_with fail
        go_ret2
        exact ⟨rfl, (by repeat (first | exact Grow.refl _ | refine Grow.andr ?_ | refine Grow.plus ?_ _ | refine Grow.alloc ?_ _ | refine Grow.drew ?_ | refine Grow.drewN ?_ _))⟩
end Go.Proofs.YtmmkmhpchoelkaaDoor
namespace Go.Proofs.YtmmkmhpchoelkaaDoor
open Go Go.RowKit

def Sl.from (s : Sl) (l k : Nat) : Sl := match s with
  | .nil => .nil
  | .mk b o n c => .mk b (if c = l then o else o + l * k) (n - l) (c - l)
def Sl.cut (s : Sl) (h : Nat) : Sl := match s with
  | .nil => .nil
  | .mk b o _ _ => .mk b o h h
section
variable {P : Program} (w : World)
theorem run_slice_from {t e : TypeId} {k : Nat} (ht : P.underlying t = some (.slice e)) (hk : ∀ w, (sizeOf e).run P w = .ok k w) (s : Sl) (q : IntKind) (i : Int) (h0 : 0 ≤ i) (h1 : i ≤ s.n) :
    (Instr.slice t s.val (some (.int q i)) none none).run P w = .ok (s.from i.toNat k).val w := by
  cases s with
  | nil =>
    have : i = 0 := by simp [Sl.n] at h1; omega
    subst this
    simp [Instr.slice, Sl.val, Sl.from, run_underlying ht, hk, Instr.sliceBounds, run_sliceBound]
  | mk b o n c =>
    simp only [Sl.n] at h1
    simp only [Instr.slice, Sl.val, Sl.from, Sem.run_bind, run_underlying ht, Result.andThen_ok, Instr.sliceBounds, Sem.run_pure, run_sliceBound w q i n _ h0 h1, hk]
    split <;> simp [Addr.add]
theorem run_slice_cut {t e : TypeId} {k : Nat} (ht : P.underlying t = some (.slice e)) (hk : ∀ w, (sizeOf e).run P w = .ok k w) (s : Sl) (q r : IntKind) (i : Int) (h0 : 0 ≤ i) (h1 : i ≤ s.c) :
    (Instr.slice t s.val none (some (.int q i)) (some (.int r i))).run P w = .ok (s.cut i.toNat).val w := by
  have hi : (i.toNat : Int) = i := Int.toNat_of_nonneg h0
  cases s with
  | nil =>
    have : i = 0 := by simp [Sl.c] at h1; omega
    subst this
    simp [Instr.slice, Sl.val, Sl.cut, run_underlying ht, hk, Instr.sliceBounds, run_sliceBound]
  | mk b o n c =>
    simp only [Sl.c] at h1
    simp only [Instr.slice, Sl.val, Sl.cut, Sem.run_bind, run_underlying ht, Result.andThen_ok, Instr.sliceBounds, Sem.run_pure, run_sliceBound w r i c _ h0 h1, run_sliceBound w q i i.toNat _ h0 (by omega), hk]
    split <;> simp [Addr.add]
end
theorem Rows'.from {w : World} {s : Sl} {k : Nat} {l : List (List Int)} (h : Rows' w s k l) (j : Nat) (hj : j ≤ l.length) : Rows' w (s.from j k) k (l.drop j) := by
  cases s with
  | nil =>
    have : l = [] := List.eq_nil_of_length_eq_zero h.len.symm
    subst this
    rw [List.drop_nil]; exact Rows'.nil _ _
  | mk b o n c =>
    have hn : n = l.length := h.len
    have hc : n ≤ c := h.cap
    have hr : ∀ i, rowAt (l.drop j) i = rowAt l (j + i) := fun i => by simp [rowAt, List.getD, List.getElem?_drop]
    refine ⟨by simp [Sl.from, Sl.n, hn], by simp [Sl.from, Sl.n, Sl.c]; omega, fun i hi => ?_, fun i q hi hq => ?_⟩
    · rw [hr]; exact h.wid _ (by simp at hi; omega)
    · rw [hr]
      simp at hi
      have h1 := h.cell (j + i) q (by omega) hq
      simp only [Sl.from, Sl.b, Sl.o] at h1 ⊢
      rw [if_neg (by omega), Nat.add_assoc o, ← Nat.add_mul]
      exact h1
theorem Rows'.upto {w : World} {s : Sl} {k : Nat} {l : List (List Int)} (h : Rows' w s k l) (j : Nat) (hj : j ≤ l.length) : Rows' w (s.cut j) k (l.take j) := by
  cases s with
  | nil =>
    have : l = [] := List.eq_nil_of_length_eq_zero h.len.symm
    subst this
    rw [List.take_nil]; exact Rows'.nil _ _
  | mk b o n c =>
    have hr : ∀ i, i < j → rowAt (l.take j) i = rowAt l i := fun i hi => by simp [rowAt, List.getD, hi]
    refine ⟨by simp [Sl.cut, Sl.n, hj], by simp [Sl.cut, Sl.n, Sl.c], fun i hi => ?_, fun i q hi hq => ?_⟩
    · simp at hi; rw [hr i (by omega)]; exact h.wid _ (by omega)
    · simp at hi
      rw [hr i (by omega)]
      exact h.cell i q (by omega) hq
theorem Room.cut {w : World} {s : Sl} {k : Nat} (h : Room w s k) (j : Nat) (hj : j ≤ s.c) : Room w (s.cut j) k := by
  cases s with
  | nil => exact Room.nil _ _
  | mk b o n c =>
    have hj : j ≤ c := hj
    refine ⟨Nat.le_trans hj h.max, fun i hi => h.there i ?_⟩
    exact Nat.lt_of_lt_of_le hi (Nat.mul_le_mul_right k hj)
theorem cut_owns {s : Sl} {j b : Nat} : (s.cut j).owns b ↔ s.owns b := by cases s <;> exact Iff.rfl
@[go_sem] theorem slice_from_events (w : World) (s : Sl) (q : IntKind) (i : Int) (h0 : 0 ≤ i) (h1 : i ≤ s.n) : (Instr.slice 43 s.val (some (.int q i)) none none).run Tryd.prog w = .ok (s.from i.toNat 6).val w :=
  run_slice_from w Tryd.underlying43 (fun w => (by kernel_rfl : (sizeOf 42).run Tryd.prog w = .ok 6 w)) s q i h0 h1
@[go_sem] theorem slice_cut_events (w : World) (s : Sl) (q r : IntKind) (i : Int) (h0 : 0 ≤ i) (h1 : i ≤ s.c) : (Instr.slice 43 s.val none (some (.int q i)) (some (.int r i))).run Tryd.prog w = .ok (s.cut i.toNat).val w :=
  run_slice_cut w Tryd.underlying43 (fun w => (by kernel_rfl : (sizeOf 42).run Tryd.prog w = .ok 6 w)) s q r i h0 h1
@[go_sem] theorem slice_cut_marks (w : World) (s : Sl) (q r : IntKind) (i : Int) (h0 : 0 ≤ i) (h1 : i ≤ s.c) : (Instr.slice 94 s.val none (some (.int q i)) (some (.int r i))).run Tryd.prog w = .ok (s.cut i.toNat).val w :=
  run_slice_cut w Tryd.underlying94 (fun w => (by kernel_rfl : (sizeOf 100).run Tryd.prog w = .ok 2 w)) s q r i h0 h1
end Go.Proofs.YtmmkmhpchoelkaaDoor
