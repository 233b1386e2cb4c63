/-
  Which abilities of a card count then.
-/
import Derived.Test.YtibmnofpoenonaaGreatDoorTab6
namespace Go.Proofs.YtibmnofpoenonaaGreatDoor
open Go Go.RowKit

@[go_sem] theorem AbV.get0 (a : AbV) : a.arr[0]? = some (I a.wh) := rfl
@[go_sem] theorem AbV.get0' (a : AbV) (h : 0 < a.arr.size) : a.arr[0]'h = I a.wh := rfl
@[go_sem] theorem EfV.get0 (a : EfV) : a.arr[0]? = some (I a.op) := rfl
@[go_sem] theorem EfV.get0' (a : EfV) (h : 0 < a.arr.size) : a.arr[0]'h = I a.op := rfl
@[go_sem] theorem EfV.get1 (a : EfV) : a.arr[1]? = some (I a.n) := rfl
@[go_sem] theorem EfV.get1' (a : EfV) (h : 1 < a.arr.size) : a.arr[1]'h = I a.n := rfl
@[go_sem] theorem EfV.get2 (a : EfV) : a.arr[2]? = some (I a.m) := rfl
@[go_sem] theorem EfV.get2' (a : EfV) (h : 2 < a.arr.size) : a.arr[2]'h = I a.m := rfl
@[go_sem] theorem EfV.get4 (a : EfV) : a.arr[4]? = some a.subs.val := rfl
@[go_sem] theorem EfV.get4' (a : EfV) (h : 4 < a.arr.size) : a.arr[4]'h = a.subs.val := rfl
@[go_sem] theorem indexAt_abs (w : World) (s : Sl) (q : IntKind) (i : Int) (h0 : 0 ≤ i) (h1 : i < s.n) : (Instr.indexAt 90 s.val (.int q i)).run Tryz.prog w = .ok (.pointer (some ⟨s.b, s.o + i.toNat * 14, none⟩)) w :=
  run_indexAt_sl w Tryz.underlying90 (fun w => (by kernel_rfl : (sizeOf 136).run Tryz.prog w = .ok 14 w)) s q i h0 h1
@[go_sem] theorem indexAt_effs (w : World) (s : Sl) (q : IntKind) (i : Int) (h0 : 0 ≤ i) (h1 : i < s.n) : (Instr.indexAt 97 s.val (.int q i)).run Tryz.prog w = .ok (.pointer (some ⟨s.b, s.o + i.toNat * 5, none⟩)) w :=
  run_indexAt_sl w Tryz.underlying97 (fun w => (by kernel_rfl : (sizeOf 99).run Tryz.prog w = .ok 5 w)) s q i h0 h1
theorem Sl.owns_b {s : Sl} (h : 0 < s.n) : s.owns s.b := by cases s with
  | nil => simp [Sl.n] at h
  | mk => rfl
theorem AbsOk.get {w : World} {n : Nat} {l : List AbV} {m : List AbN} (h : AbsOk w n l m) : l.length = m.length ∧ ∀ (i : Nat) (a : AbV) (d : AbN), l[i]? = some a → m[i]? = some d → AbOk w n a d := by
  induction h with
  | nil => exact ⟨rfl, fun i a d h => by simp at h⟩
  | cons h _ ih =>
    refine ⟨by rw [List.length_cons, List.length_cons, ih.1], fun i a d h1 h2 => ?_⟩
    cases i with
    | zero =>
      simp only [List.getElem?_cons_zero, Option.some.injEq] at h1 h2
      subst h1; subst h2; exact h
    | succ i =>
      simp only [List.getElem?_cons_succ] at h1 h2
      exact ih.2 i a d h1 h2
/-- The places of the abilities that count then, among the first k. -/
def usesTo (m : List AbN) (wh : Int) (k : Nat) : List Int := ((List.range k).filter fun i => (m.getD i ⟨0, 0, 0, 0, 0⟩).wh == wh).map fun (i : Nat) => (i : Int)
def usesN (m : List AbN) (wh : Int) : List Int := usesTo m wh m.length
theorem usesTo_succ (m : List AbN) (wh : Int) (k : Nat) : usesTo m wh (k + 1) = usesTo m wh k ++ (if ((m.getD k ⟨0, 0, 0, 0, 0⟩).wh == wh) = true then [(k : Int)] else []) := by
  unfold usesTo
  rw [List.range_succ, List.filter_append, List.map_append]
  congr 1
  by_cases h : ((m.getD k ⟨0, 0, 0, 0, 0⟩).wh == wh) = true
  · rw [if_pos h, List.filter_cons_of_pos (by simpa using h)]; rfl
  · rw [if_neg h, List.filter_cons_of_neg (by simpa using h)]; rfl
theorem usesN_at (m : List AbN) (wh : Int) (x : Int) (h : x ∈ usesN m wh) : ∃ i : Nat, x = i ∧ i < m.length ∧ (m.getD i ⟨0, 0, 0, 0, 0⟩).wh = wh := by
  unfold usesN usesTo at h
  obtain ⟨i, hi, rfl⟩ := List.mem_map.1 h
  obtain ⟨h1, h2⟩ := List.mem_filter.1 hi
  exact ⟨i, rfl, List.mem_range.1 h1, by simpa using h2⟩
/-- What a walk needs of one ability of a card. -/
theorem CardOk.ab {w : World} {n : Nat} {c : CdV} {d : CardN} (h : CardOk w n c d) {i : Nat} (hi : i < d.abs.length) :
    ∃ a : AbV, c.abs.n = d.abs.length ∧ c.abs.b < w.heap.size ∧ c.abs.o + i * 14 + 14 ≤ (w.blk c.abs.b).size ∧ sub (w.blk c.abs.b) (c.abs.o + i * 14) 14 = a.arr ∧ sub (w.blk c.abs.b) (c.abs.o + i * 14 + 9) 5 = a.ef.arr ∧ AbOk w n a (d.abs.getD i ⟨0, 0, 0, 0, 0⟩) := by
  obtain ⟨l, h1, _, h2⟩ := h.abs
  obtain ⟨g1, g2⟩ := h2.get
  have hl : l[i]? = some l[i] := List.getElem?_eq_getElem (by omega)
  obtain ⟨q1, q2, q3⟩ := h1.at (by decide) (i := i) (x := l[i].arr) (by rw [List.getElem?_map, hl]; rfl)
  refine ⟨l[i], by rw [h1.len, List.length_map, g1], q1, q2, q3, ?_, g2 i _ _ hl ?_⟩
  · have : sub (w.blk c.abs.b) (c.abs.o + i * 14 + 9) 5 = sub (sub (w.blk c.abs.b) (c.abs.o + i * 14) 14) 9 5 := by
      unfold sub
      rw [Array.extract_extract]
      congr 1
      omega
    rw [this, q3]
    rfl
  · rw [List.getD, List.getElem?_eq_getElem hi]; rfl
set_option maxRecDepth 100000 in
set_option maxHeartbeats 2000000 in
theorem uses_any (w : World) (c : CdV) (d : CardN) (n : Nat) (h : CardOk w n c d) (wh : Int) (hd : d.abs.length ≤ 1000) : Calls Tryz.prog 113 #[.agg c.arr, .int .i64 wh] w fun e w' => ∃ s : Sl, e = .returned s.val ∧ Ints w' s (usesN d.abs wh) ∧ (∀ b, s.owns b → w.heap.size ≤ b) ∧ Grow w w' := by
  have H := Lib.hid h
  have hcn : c.abs.n = d.abs.length := by
    obtain ⟨l, h1, _, h2⟩ := h.abs
    rw [h1.len, List.length_map, h2.get.1]
  clear h
  go_enter Tryz.func113, Tryz.ntmps113
  go_wp2_with fail
  go_loopw [5, 11] (fun v i wr => ∃ (k : Nat) (s : Sl), k ≤ d.abs.length ∧ i = .int .i64 k ∧ v = s.val ∧ Made (w.alloc (.cells c.arr 92)).heap.size wr s 1 ((usesTo d.abs wh k).map I) ∧ s.n ≤ k ∧ Grow (w.alloc (.cells c.arr 92)) wr) (fun _ i _ => d.abs.length - (intOf i).toNat)
  case atStart => exact ⟨0, .nil, by omega, rfl, rfl, Made.nil _ _ _, by simp [Sl.n], (by repeat (first | exact Grow.refl _ | refine Grow.andr ?_ | refine Grow.plus ?_ _ | refine Grow.alloc ?_ _ | refine Grow.drew ?_ | refine Grow.drewN ?_ _))⟩
  case round =>
    obtain ⟨k, s, hk, rfl, rfl, hM, hsn, hG⟩ := hrel
    obtain ⟨x, rfl⟩ := hG
    have HM := Lib.hid hM
    clear hM
    by_cases hlt : k < d.abs.length
    · obtain ⟨a, _, q1, q2, q3, _, q5⟩ := H.out.ab hlt
      have hwh : (d.abs.getD k ⟨0, 0, 0, 0, 0⟩).wh = a.wh := q5.1.symm
      clear q5
      have HS : Hid (usesTo d.abs wh (k + 1) = usesTo d.abs wh k ++ (if (a.wh == wh) = true then [(k : Int)] else [])) := by rw [Hid, usesTo_succ, hwh]
      clear hwh
      cases hd2 : (a.wh == wh) with
      | false =>
        have HS2 : Hid (usesTo d.abs wh (k + 1) = usesTo d.abs wh k) := by rw [Hid, HS.out, hd2]; simp
        go_wp2_with fail
        go_roundw
        case rel => exact ⟨k + 1, s, by omega, by go_num, rfl, by rw [HS2.out]; exact HM.out.grow (by repeat (first | exact Grow.refl _ | refine Grow.andr ?_ | refine Grow.plus ?_ _ | refine Grow.alloc ?_ _ | refine Grow.drew ?_ | refine Grow.drewN ?_ _)), by omega, (by repeat (first | exact Grow.refl _ | refine Grow.andr ?_ | refine Grow.plus ?_ _ | refine Grow.alloc ?_ _ | refine Grow.drew ?_ | refine Grow.drewN ?_ _))⟩
        case measure => simp [intOf]; omega
      | true =>
        have HS2 : Hid (usesTo d.abs wh (k + 1) = usesTo d.abs wh k ++ [(k : Int)]) := by rw [Hid, HS.out, hd2]; simp
        go_wp2_with ((at_builtin; refine wpList_made rfl _ _ 23 rfl 3 Tryz.t3 (.int .i64 0) 1 8 Tryz.underlying23 (by kernel_rfl) (by kernel_rfl) (by kernel_rfl) (by kernel_rfl) (by omega) rfl (w.alloc (.cells c.arr 92)) s (.mk _ 0 1 1) ((usesTo d.abs wh k).map I) [I (k : Int)] rfl rfl (HM.out.grow (by repeat (first | exact Grow.refl _ | refine Grow.andr ?_ | refine Grow.plus ?_ _ | refine Grow.alloc ?_ _ | refine Grow.drew ?_ | refine Grow.drewN ?_ _))) (by repeat (first | exact Grow.refl _ | refine Grow.andr ?_ | refine Grow.plus ?_ _ | refine Grow.alloc ?_ _ | refine Grow.drew ?_ | refine Grow.drewN ?_ _)) (one_int _ _ _ (by go_simp)) (flat_one _) (flat_one [(k : Int)]) (by simp only [Sl.n] at hsn ⊢; omega) ?_; intro s2 y c1 _ c3 _; have C := Lib.hid (And.intro c1 c3); clear c1 c3))
        go_roundw
        case rel => exact ⟨k + 1, s2, by omega, by go_num, rfl, by rw [HS2.out, List.map_append]; exact C.out.1.grow (by repeat (first | exact Grow.refl _ | refine Grow.andr ?_ | refine Grow.plus ?_ _ | refine Grow.alloc ?_ _ | refine Grow.drew ?_ | refine Grow.drewN ?_ _)), by rw [C.out.2]; simp only [Sl.n] at hsn ⊢; omega, (by repeat (first | exact Grow.refl _ | refine Grow.andr ?_ | refine Grow.plus ?_ _ | refine Grow.alloc ?_ _ | refine Grow.drew ?_ | refine Grow.drewN ?_ _))⟩
        case measure => simp [intOf]; omega
    · go_wp2_with fail
      go_ret
      have hkl : k = d.abs.length := by omega
      have hM := HM.out.cells
      rw [hkl] at hM
      exact ⟨s, rfl, (hM.grow (by repeat (first | exact Grow.refl _ | refine Grow.andr ?_ | refine Grow.plus ?_ _ | refine Grow.alloc ?_ _ | refine Grow.drew ?_ | refine Grow.drewN ?_ _))).ints, fun b hb => Nat.le_trans (by rw [alloc_size']; omega) (HM.out.own b hb).1, (by repeat (first | exact Grow.refl _ | refine Grow.andr ?_ | refine Grow.plus ?_ _ | refine Grow.alloc ?_ _ | refine Grow.drew ?_ | refine Grow.drewN ?_ _))⟩
end Go.Proofs.YtibmnofpoenonaaGreatDoor
