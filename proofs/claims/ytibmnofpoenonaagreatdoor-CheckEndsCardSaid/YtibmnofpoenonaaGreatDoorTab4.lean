/-
  Special cards, beasts, and the table of all cards.
-/
import Derived.Test.YtibmnofpoenonaaGreatDoorTab3
namespace Go.Proofs.YtibmnofpoenonaaGreatDoor
open Go Go.RowKit

@[go_sem] theorem CdV.get0 (c : CdV) : c.arr[0]? = some (I c.kind) := rfl
@[go_sem] theorem CdV.get9 (c : CdV) : c.arr[9]? = some (I c.pw) := rfl
@[go_sem] theorem CdV.get10 (c : CdV) : c.arr[10]? = some (I c.tf) := rfl
@[go_sem] theorem CdV.get11 (c : CdV) : c.arr[11]? = some (I c.says) := rfl
@[go_sem] theorem CdV.get12 (c : CdV) : c.arr[12]? = some c.abs.val := rfl
@[go_sem] theorem CdV.get0' (c : CdV) (h : 0 < c.arr.size) : c.arr[0]'h = I c.kind := rfl
@[go_sem] theorem CdV.get9' (c : CdV) (h : 9 < c.arr.size) : c.arr[9]'h = I c.pw := rfl
@[go_sem] theorem CdV.get10' (c : CdV) (h : 10 < c.arr.size) : c.arr[10]'h = I c.tf := rfl
@[go_sem] theorem CdV.get11' (c : CdV) (h : 11 < c.arr.size) : c.arr[11]'h = I c.says := rfl
@[go_sem] theorem CdV.get12' (c : CdV) (h : 12 < c.arr.size) : c.arr[12]'h = c.abs.val := rfl
@[go_sem] theorem CdV.set9 (c : CdV) (x : Int) : c.arr.setIfInBounds 9 (.int .i64 x) = CdV.arr { c with pw := x } := rfl
@[go_sem] theorem CdV.set10 (c : CdV) (x : Int) : c.arr.setIfInBounds 10 (.int .i64 x) = CdV.arr { c with tf := x } := rfl
@[go_sem] theorem CdV.set11 (c : CdV) (x : Int) : c.arr.setIfInBounds 11 (.int .i64 x) = CdV.arr { c with says := x } := rfl
@[go_sem] theorem CdV.set12 (c : CdV) (s : Sl) : c.arr.setIfInBounds 12 s.val = CdV.arr { c with abs := s } := rfl
@[go_sem] theorem CdV.set12' (c : CdV) (b o n k : Nat) : c.arr.setIfInBounds 12 (.slice (some ⟨b, o, none⟩) n k) = CdV.arr { c with abs := .mk b o n k } := rfl
@[go_sem] theorem indexAt_cards (w : World) (s : Sl) (q : IntKind) (i : Int) (h0 : 0 ≤ i) (h1 : i < s.n) : (Instr.indexAt 190 s.val (.int q i)).run Tryz.prog w = .ok (.pointer (some ⟨s.b, s.o + i.toNat * 13, none⟩)) w :=
  run_indexAt_sl w Tryz.underlying190 (fun w => (by kernel_rfl : (sizeOf 92).run Tryz.prog w = .ok 13 w)) s q i h0 h1
@[go_sem ↓] theorem storeS_Abs (ρ : Operand → Value) (dst : Option Tmp) (x y : Operand) (ty : TypeId) (pos : String) (after : Array Edge) (guard : Option (Nat × Bool)) :
    execOp ρ { dst, op := .store 90 x y, type := ty, pos, after, guard } = stRow 90 (ρ x) (ρ y) := rfl
@[go_sem] theorem run_storeS_Abs (w : World) (b o : Nat) (s : Sl) (h : (w.cell? ⟨b, o, none⟩).isSome = true) (hf : w.frozen? ⟨b, o, none⟩ = false) : (stRow 90 (.pointer (some ⟨b, o, none⟩)) s.val).run Tryz.prog w = .ok .skip (w.setCell ⟨b, o, none⟩ s.val) :=
  run_stSl w b o 90 s (by kernel_rfl) h hf
/-- Cards 100 to 111. -/
def specialN (i : Nat) : CardN := if i = 8 then ⟨1, 1, 1, 0, [⟨1, 0, 0, 0, 0⟩, ⟨6, 0, 0, 0, 0⟩]⟩ else if i = 11 then ⟨1, 2, 3, 5, [⟨3, 0, 0, 0, 0⟩]⟩ else (earlyN ++ lateN).getD i ⟨0, 0, 0, 0, []⟩
theorem CardsOk.low {w : World} {k n : Nat} {l : List CdV} {m : List CardN} (h : CardsOk w n l m) (hk : k ≤ n) : CardsOk w k l m := ⟨h.1, fun i c d h1 h2 => (h.2 i c d h1 h2).low hk⟩
theorem CardOk.to {b : Nat} {w w1 w2 w3 : World} {m n : Nat} {c : CdV} {d : CardN} (h : CardOk w n c d) (g : Grow w w1) (ho : Off b w1 w2) (hb : b < n) (hm : m ≤ n) (g3 : Grow w2 w3) : CardOk w3 m c d :=
  (((h.grow g).off ho hb).low hm).grow g3
theorem CardOk.tune {w : World} {n : Nat} {c : CdV} {d : CardN} (h : CardOk w n c d) (p t s : Int) : CardOk w n { c with pw := p, tf := t, says := s } { d with pw := p, tf := t, says := s } := ⟨h.kind, rfl, rfl, rfl, h.abs⟩
theorem AbsOk.append {w : World} {n : Nat} {l l' : List AbV} {m m' : List AbN} (h : AbsOk w n l m) (h' : AbsOk w n l' m') : AbsOk w n (l ++ l') (m ++ m') := by
  induction h with
  | nil => exact h'
  | cons h _ ih => exact .cons h ih
theorem special_row {W : World} {y : Ext} {n i : Nat} (hi : i < 12) {l1 l2 : List CdV} {s2 : Sl} (h1 : ∀ c, c ∈ l1 → c.abs.c = c.abs.n) (h2 : ∀ c, c ∈ l2 → c.abs.c = c.abs.n) (o1 : CardsOk W n l1 earlyN) (o2 : CardsOk W n l2 lateN)
    (c1 : Cells (W.plus y) s2 13 (flatV (l1.map CdV.arr) ++ flatV (l2.map CdV.arr))) :
    ∃ c : CdV, s2.b < (W.plus y).heap.size ∧ s2.o + i * 13 + 13 ≤ ((W.plus y).blk s2.b).size ∧ sub ((W.plus y).blk s2.b) (s2.o + i * 13) 13 = c.arr ∧ c.abs.c = c.abs.n ∧ CardOk W n c ((earlyN ++ lateN).getD i ⟨0, 0, 0, 0, []⟩) ∧ True := by
  have hR := Cells.rowsV (l := (l1 ++ l2).map CdV.arr) (by rw [List.map_append, flatV_append]; exact c1) (by decide) (fun x hx => by obtain ⟨c, _, rfl⟩ := List.mem_map.1 hx; exact CdV.size c)
  have hO := o1.append o2
  have hl : (l1 ++ l2).length = 12 := hO.1
  have hc : (l1 ++ l2)[i]? = some (l1 ++ l2)[i] := List.getElem?_eq_getElem (by omega)
  obtain ⟨a1, a2, a3⟩ := hR.at (by decide) (i := i) (x := (l1 ++ l2)[i].arr) (by rw [List.getElem?_map, hc]; rfl)
  refine ⟨(l1 ++ l2)[i], a1, a2, a3, ?_, ?_, trivial⟩
  · rcases List.mem_append.1 (List.getElem_mem (by omega : i < (l1 ++ l2).length)) with h | h
    · exact h1 _ h
    · exact h2 _ h
  · have hm : (earlyN ++ lateN)[i]? = some ((earlyN ++ lateN).getD i ⟨0, 0, 0, 0, []⟩) := by
      have : i < (earlyN ++ lateN).length := hi
      rw [List.getD, List.getElem?_eq_getElem this]; rfl
    exact hO.2 i _ _ hc hm
set_option maxRecDepth 100000 in
set_option maxHeartbeats 2000000 in
theorem special_any (w : World) (i : Nat) (hi : i < 12) : Calls Tryz.prog 139 #[.int .i64 (i : Int)] w fun r w' => ∃ c : CdV, r = .returned (.agg c.arr) ∧ CardOk w' w.heap.size c (specialN i) ∧ Grow w w' := by
  have hi' : (i : Int) < 12 := by omega
  by_cases h8 : i = 8
  · have t8 : ((i : Int) == 8) = true := by simp; omega
    have HN : Hid (specialN i = ⟨1, 1, 1, 0, [⟨1, 0, 0, 0, 0⟩, ⟨6, 0, 0, 0, 0⟩]⟩ ∧ (earlyN ++ lateN).getD i ⟨0, 0, 0, 0, []⟩ = ⟨1, 0, 0, 0, [⟨1, 0, 0, 0, 0⟩]⟩) := by
      subst h8; exact ⟨rfl, rfl⟩
    clear h8
    go_enter Tryz.func139, Tryz.ntmps139
    go_wp2_with (first | (go_at_call 158; refine (early_any _).mono ?_; rintro e' w' ⟨⟨b1, l1, rfl, hn1, hr1, hc1, ho1⟩, nx, rfl⟩; have H1 := Lib.hid (And.intro hr1 (And.intro hc1 ho1)); clear hr1 hc1 ho1 hn1) | (go_at_call 159; refine (late_any _).mono ?_; rintro e' w' ⟨⟨b2, l2, rfl, hn2, hr2, hc2, ho2⟩, nx, rfl⟩; (try simp only [drew_plus] at hr2); (try simp only [plus_plus] at hr2); (try simp only [drew_plus] at ho2); (try simp only [plus_plus] at ho2); have H2 := Lib.hid (And.intro hr2 (And.intro hc2 ho2)); clear hr2 hc2 ho2 hn2) | (at_builtin; refine wpList_full rfl _ _ 190 rfl 92 Tryz.t92 (.agg (CdV.arr ⟨0, 0, false, 0, 0, 0, 0, 0, 0, 0, 0, 0, .nil⟩)) 13 120 Tryz.underlying190 (by kernel_rfl) (by kernel_rfl) (by kernel_rfl) (by kernel_rfl) (by omega) rfl (.mk b1 0 6 6) (.mk b2 0 6 6) (flatV (l1.map CdV.arr)) (flatV (l2.map CdV.arr)) rfl rfl (H1.out.1.grow (by repeat (first | exact Grow.refl _ | refine Grow.andr ?_ | refine Grow.plus ?_ _ | refine Grow.alloc ?_ _ | refine Grow.drew ?_ | refine Grow.drewN ?_ _))).cells (by show 6 < 12; decide) (H2.out.1.grow (by repeat (first | exact Grow.refl _ | refine Grow.andr ?_ | refine Grow.plus ?_ _ | refine Grow.alloc ?_ _ | refine Grow.drew ?_ | refine Grow.drewN ?_ _))).cells (flatV_one (by simp [CdV.one])) (by show 12 ≤ 4194304; decide) ?_; intro s2 y c1 c2 c3; obtain ⟨c, q1, q2, q3, q4, q5, q6⟩ := special_row hi H1.out.2.1 H2.out.2.1 (H1.out.2.2.grow (by repeat (first | exact Grow.refl _ | refine Grow.andr ?_ | refine Grow.plus ?_ _ | refine Grow.alloc ?_ _ | refine Grow.drew ?_ | refine Grow.drewN ?_ _))) (H2.out.2.2.low (by first | (go_simp; done) | (go_simp; omega) | (simp only [Sl.b]; go_simp; omega))) c1; (try simp only [drew_plus] at q1); (try simp only [plus_plus] at q1); (try simp only [drew_plus] at q2); (try simp only [plus_plus] at q2); (try simp only [drew_plus] at q3); (try simp only [plus_plus] at q3); (rw [plus_size] at q1); (rw [blk_plus, if_neg (by simp only [plus_size, alloc_size'] at c3 ⊢; omega)] at q2 q3); have hs2 : s2.n = 12 := c2; have q0 : w.heap.size + 1 ≤ s2.b := (by simp only [plus_size, alloc_size'] at c3; omega); (simp only [alloc_size'] at q1); have Q := Lib.hid (And.intro q4 (And.intro q5 q6)); clear c1 c2 c3 q4 q5 q6))
    obtain ⟨l, hl1, hl0, hl2⟩ := Q.out.2.1.abs
    rw [HN.out.2] at hl2
    have HL := Lib.hid (And.intro hl1 (And.intro hl0 hl2))
    have HCN : Hid (c.abs.n = 1) := by
      have h1 := hl1.len
      rw [List.length_map] at h1
      cases hl2 with
      | cons _ h => cases h; exact h1
    clear hl1 hl0 hl2
    go_region_law (first | (refine step_wanted (by rfl) ?_; go_simp; go_at_call 144; refine (mana_any _ _ _).mono ?_; rintro e' w' ⟨rfl, nz, rfl⟩) | (refine step_full (by rfl) _ _ 90 rfl 136 Tryz.t136 (.agg (AbV.arr ⟨0, 0, 0, 0, 0, 0, 0, false, 0, ⟨0, 0, 0, 0, .nil⟩⟩)) 14 128 Tryz.underlying90 (by kernel_rfl) (by kernel_rfl) (by kernel_rfl) (by kernel_rfl) (by omega) rfl c.abs (.mk _ 0 1 1) (flatV (l.map AbV.arr)) (flatV [AbV.arr ⟨6, 0, 0, 0, 0, 0, 0, true, 0, ⟨15, 2, 5, 0, .nil⟩⟩]) rfl rfl (HL.out.1.grow (by repeat (first | exact Grow.refl _ | refine Grow.andr ?_ | refine Grow.plus ?_ _ | refine Grow.alloc ?_ _ | refine Grow.drew ?_ | refine Grow.drewN ?_ _))).cells (by have := Q.out.1; show c.abs.c < c.abs.n + 1; omega) (RowsV.one (x := AbV.arr _) (by go_simp) (by go_simp) (by go_simp)).cells (flatV_one (by simp [AbV.one])) (by have := HCN.out; show c.abs.n + 1 ≤ 4194304; omega) ?_; intro s3 y3 c1 c2 c3; have C := Lib.hid (And.intro c1 (And.intro c2 c3)); clear c1 c2 c3))
    all_goals go_wp2_with fail
    all_goals refine bodyPost_ret (results_Card rfl _ _ _ rfl ?_) rfl ?_
    all_goals first | (go_simp; done) | skip
    all_goals
      obtain ⟨c1, c2, c3⟩ := C.out
      obtain ⟨hl1, hl0, hl2⟩ := HL.out
      have hq := Q.out.2.1
      rw [HN.out.2] at hq
      rw [HN.out.1]
      have hr := Cells.rowsV (l := l.map AbV.arr ++ [AbV.arr ⟨6, 0, 0, 0, 0, 0, 0, true, 0, ⟨15, 2, 5, 0, .nil⟩⟩]) (by rw [flatV_append]; exact c1) (by decide) (by
        intro x hx
        rcases List.mem_append.1 hx with h | h
        · obtain ⟨a, _, rfl⟩ := List.mem_map.1 h; exact AbV.size a
        · rw [List.mem_singleton.1 h]; exact AbV.size _)
      clear c1
      simp only [plus_size, alloc_size'] at c3
      refine ⟨{ c with pw := 1, tf := 1, abs := s3 }, by go_simp, ⟨hq.kind, rfl, rfl, hq.says, l ++ [⟨6, 0, 0, 0, 0, 0, 0, true, 0, ⟨15, 2, 5, 0, .nil⟩⟩], ?_, .inr ?_, ?_⟩, (by repeat (first | exact Grow.refl _ | refine Grow.andr ?_ | refine Grow.plus ?_ _ | refine Grow.alloc ?_ _ | refine Grow.drew ?_ | refine Grow.drewN ?_ _))⟩
      · rw [List.map_append]
        exact ((hr.off (Off.plus (Off.alloc (Off.plus (Off.base _ _ _ _ rfl) _) _) _) (by simp only [plus_size, alloc_size']; omega)).off (b := w.heap.size) (Off.plus (Off.alloc (Off.plus (Off.alloc (Off.plus (Off.base w _ _ _ rfl) _) _) _) _) _) (by omega)).grow (by repeat (first | exact Grow.refl _ | refine Grow.andr ?_ | refine Grow.plus ?_ _ | refine Grow.alloc ?_ _ | refine Grow.drew ?_ | refine Grow.drewN ?_ _))
      · show w.heap.size ≤ s3.b
        omega
      · refine AbsOk.append (m := [⟨1, 0, 0, 0, 0⟩]) ?_ (.cons (.of rfl (by decide)) .nil)
        exact (((hl2.off (b := w.heap.size) (Off.plus (Off.base w _ _ _ rfl) _) (by first | (go_simp; done) | (go_simp; omega) | (simp only [Sl.b]; go_simp; omega))).low (by first | (go_simp; done) | (go_simp; omega) | (simp only [Sl.b]; go_simp; omega))).grow (by repeat (first | exact Grow.refl _ | refine Grow.andr ?_ | refine Grow.plus ?_ _ | refine Grow.alloc ?_ _ | refine Grow.drew ?_ | refine Grow.drewN ?_ _)))
  · by_cases h11 : i = 11
    · have t8 : ((i : Int) == 8) = false := by simp; omega
      have t11 : ((i : Int) == 11) = true := by simp; omega
      have HN : Hid (specialN i = ⟨1, 2, 3, 5, [⟨3, 0, 0, 0, 0⟩]⟩ ∧ (earlyN ++ lateN).getD i ⟨0, 0, 0, 0, []⟩ = ⟨1, 0, 0, 0, [⟨3, 0, 0, 0, 0⟩]⟩) := by
        subst h11; exact ⟨rfl, rfl⟩
      clear h11 h8
      go_enter Tryz.func139, Tryz.ntmps139
      go_wp2_with (first | (go_at_call 158; refine (early_any _).mono ?_; rintro e' w' ⟨⟨b1, l1, rfl, hn1, hr1, hc1, ho1⟩, nx, rfl⟩; have H1 := Lib.hid (And.intro hr1 (And.intro hc1 ho1)); clear hr1 hc1 ho1 hn1) | (go_at_call 159; refine (late_any _).mono ?_; rintro e' w' ⟨⟨b2, l2, rfl, hn2, hr2, hc2, ho2⟩, nx, rfl⟩; (try simp only [drew_plus] at hr2); (try simp only [plus_plus] at hr2); (try simp only [drew_plus] at ho2); (try simp only [plus_plus] at ho2); have H2 := Lib.hid (And.intro hr2 (And.intro hc2 ho2)); clear hr2 hc2 ho2 hn2) | (at_builtin; refine wpList_full rfl _ _ 190 rfl 92 Tryz.t92 (.agg (CdV.arr ⟨0, 0, false, 0, 0, 0, 0, 0, 0, 0, 0, 0, .nil⟩)) 13 120 Tryz.underlying190 (by kernel_rfl) (by kernel_rfl) (by kernel_rfl) (by kernel_rfl) (by omega) rfl (.mk b1 0 6 6) (.mk b2 0 6 6) (flatV (l1.map CdV.arr)) (flatV (l2.map CdV.arr)) rfl rfl (H1.out.1.grow (by repeat (first | exact Grow.refl _ | refine Grow.andr ?_ | refine Grow.plus ?_ _ | refine Grow.alloc ?_ _ | refine Grow.drew ?_ | refine Grow.drewN ?_ _))).cells (by show 6 < 12; decide) (H2.out.1.grow (by repeat (first | exact Grow.refl _ | refine Grow.andr ?_ | refine Grow.plus ?_ _ | refine Grow.alloc ?_ _ | refine Grow.drew ?_ | refine Grow.drewN ?_ _))).cells (flatV_one (by simp [CdV.one])) (by show 12 ≤ 4194304; decide) ?_; intro s2 y c1 c2 c3; obtain ⟨c, q1, q2, q3, q4, q5, q6⟩ := special_row hi H1.out.2.1 H2.out.2.1 (H1.out.2.2.grow (by repeat (first | exact Grow.refl _ | refine Grow.andr ?_ | refine Grow.plus ?_ _ | refine Grow.alloc ?_ _ | refine Grow.drew ?_ | refine Grow.drewN ?_ _))) (H2.out.2.2.low (by first | (go_simp; done) | (go_simp; omega) | (simp only [Sl.b]; go_simp; omega))) c1; (try simp only [drew_plus] at q1); (try simp only [plus_plus] at q1); (try simp only [drew_plus] at q2); (try simp only [plus_plus] at q2); (try simp only [drew_plus] at q3); (try simp only [plus_plus] at q3); (rw [plus_size] at q1); (rw [blk_plus, if_neg (by simp only [plus_size, alloc_size'] at c3 ⊢; omega)] at q2 q3); have hs2 : s2.n = 12 := c2; have q0 : w.heap.size + 1 ≤ s2.b := (by simp only [plus_size, alloc_size'] at c3; omega); (simp only [alloc_size'] at q1); have Q := Lib.hid (And.intro q4 (And.intro q5 q6)); clear c1 c2 c3 q4 q5 q6))
      refine bodyPost_ret (results_Card rfl _ _ _ rfl ?_) rfl ?_
      · go_simp
      · refine ⟨{ c with pw := 2, tf := 3, says := 5 }, by go_simp, ?_, (by repeat (first | exact Grow.refl _ | refine Grow.andr ?_ | refine Grow.plus ?_ _ | refine Grow.alloc ?_ _ | refine Grow.drew ?_ | refine Grow.drewN ?_ _))⟩
        have hq := Q.out.2.1
        rw [HN.out.2] at hq
        rw [HN.out.1]
        refine CardOk.tune (d := ⟨1, 0, 0, 0, [⟨3, 0, 0, 0, 0⟩]⟩) (c := c) ?_ 2 3 5
        exact hq.to (b := w.heap.size) (by repeat (first | exact Grow.refl _ | refine Grow.andr ?_ | refine Grow.plus ?_ _ | refine Grow.alloc ?_ _ | refine Grow.drew ?_ | refine Grow.drewN ?_ _)) (Off.plus (Off.base w _ _ _ rfl) _) (by first | (go_simp; done) | (go_simp; omega) | (simp only [Sl.b]; go_simp; omega)) (by first | (go_simp; done) | (go_simp; omega) | (simp only [Sl.b]; go_simp; omega)) (by repeat (first | exact Grow.refl _ | refine Grow.andr ?_ | refine Grow.plus ?_ _ | refine Grow.alloc ?_ _ | refine Grow.drew ?_ | refine Grow.drewN ?_ _))
    · have t8 : ((i : Int) == 8) = false := by simp; omega
      have t11 : ((i : Int) == 11) = false := by simp; omega
      have HN : Hid (specialN i = (earlyN ++ lateN).getD i ⟨0, 0, 0, 0, []⟩) := by rw [Hid, specialN, if_neg h8, if_neg h11]
      go_enter Tryz.func139, Tryz.ntmps139
      go_wp2_with (first | (go_at_call 158; refine (early_any _).mono ?_; rintro e' w' ⟨⟨b1, l1, rfl, hn1, hr1, hc1, ho1⟩, nx, rfl⟩; have H1 := Lib.hid (And.intro hr1 (And.intro hc1 ho1)); clear hr1 hc1 ho1 hn1) | (go_at_call 159; refine (late_any _).mono ?_; rintro e' w' ⟨⟨b2, l2, rfl, hn2, hr2, hc2, ho2⟩, nx, rfl⟩; (try simp only [drew_plus] at hr2); (try simp only [plus_plus] at hr2); (try simp only [drew_plus] at ho2); (try simp only [plus_plus] at ho2); have H2 := Lib.hid (And.intro hr2 (And.intro hc2 ho2)); clear hr2 hc2 ho2 hn2) | (at_builtin; refine wpList_full rfl _ _ 190 rfl 92 Tryz.t92 (.agg (CdV.arr ⟨0, 0, false, 0, 0, 0, 0, 0, 0, 0, 0, 0, .nil⟩)) 13 120 Tryz.underlying190 (by kernel_rfl) (by kernel_rfl) (by kernel_rfl) (by kernel_rfl) (by omega) rfl (.mk b1 0 6 6) (.mk b2 0 6 6) (flatV (l1.map CdV.arr)) (flatV (l2.map CdV.arr)) rfl rfl (H1.out.1.grow (by repeat (first | exact Grow.refl _ | refine Grow.andr ?_ | refine Grow.plus ?_ _ | refine Grow.alloc ?_ _ | refine Grow.drew ?_ | refine Grow.drewN ?_ _))).cells (by show 6 < 12; decide) (H2.out.1.grow (by repeat (first | exact Grow.refl _ | refine Grow.andr ?_ | refine Grow.plus ?_ _ | refine Grow.alloc ?_ _ | refine Grow.drew ?_ | refine Grow.drewN ?_ _))).cells (flatV_one (by simp [CdV.one])) (by show 12 ≤ 4194304; decide) ?_; intro s2 y c1 c2 c3; obtain ⟨c, q1, q2, q3, q4, q5, q6⟩ := special_row hi H1.out.2.1 H2.out.2.1 (H1.out.2.2.grow (by repeat (first | exact Grow.refl _ | refine Grow.andr ?_ | refine Grow.plus ?_ _ | refine Grow.alloc ?_ _ | refine Grow.drew ?_ | refine Grow.drewN ?_ _))) (H2.out.2.2.low (by first | (go_simp; done) | (go_simp; omega) | (simp only [Sl.b]; go_simp; omega))) c1; (try simp only [drew_plus] at q1); (try simp only [plus_plus] at q1); (try simp only [drew_plus] at q2); (try simp only [plus_plus] at q2); (try simp only [drew_plus] at q3); (try simp only [plus_plus] at q3); (rw [plus_size] at q1); (rw [blk_plus, if_neg (by simp only [plus_size, alloc_size'] at c3 ⊢; omega)] at q2 q3); have hs2 : s2.n = 12 := c2; have q0 : w.heap.size + 1 ≤ s2.b := (by simp only [plus_size, alloc_size'] at c3; omega); (simp only [alloc_size'] at q1); have Q := Lib.hid (And.intro q4 (And.intro q5 q6)); clear c1 c2 c3 q4 q5 q6))
      refine bodyPost_ret (results_Card rfl _ _ _ rfl ?_) rfl ?_
      · go_simp
      · refine ⟨c, by go_simp, ?_, (by repeat (first | exact Grow.refl _ | refine Grow.andr ?_ | refine Grow.plus ?_ _ | refine Grow.alloc ?_ _ | refine Grow.drew ?_ | refine Grow.drewN ?_ _))⟩
        rw [HN.out]
        exact Q.out.2.1.to (b := w.heap.size) (by repeat (first | exact Grow.refl _ | refine Grow.andr ?_ | refine Grow.plus ?_ _ | refine Grow.alloc ?_ _ | refine Grow.drew ?_ | refine Grow.drewN ?_ _)) (Off.plus (Off.base w _ _ _ rfl) _) (by first | (go_simp; done) | (go_simp; omega) | (simp only [Sl.b]; go_simp; omega)) (by first | (go_simp; done) | (go_simp; omega) | (simp only [Sl.b]; go_simp; omega)) (by repeat (first | exact Grow.refl _ | refine Grow.andr ?_ | refine Grow.plus ?_ _ | refine Grow.alloc ?_ _ | refine Grow.drew ?_ | refine Grow.drewN ?_ _))
end Go.Proofs.YtibmnofpoenonaaGreatDoor
