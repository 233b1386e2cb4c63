/- Special cards, beasts, and the table of all cards. -/
import Derived.Test.YtgobdndjemicjaaGreatDoorMTab3
namespace Go.Proofs.YtgobdndjemicjaaGreatDoor
open Go Go.RowKit
@[go_sem] theorem CdV.get0 (c : CdV) : c.arr[0]? = some (I c.kind) := rfl
@[go_sem] theorem CdV.get9 (c : CdV) : c.arr[9]? = some (I c.pw) := rfl
@[go_sem] theorem CdV.get10 (c : CdV) : c.arr[10]? = some (I c.tf) := rfl
@[go_sem] theorem CdV.get11 (c : CdV) : c.arr[11]? = some (I c.says) := rfl
@[go_sem] theorem CdV.get12 (c : CdV) : c.arr[12]? = some c.abs.val := rfl
@[go_sem] theorem CdV.get0' (c : CdV) (h : 0 < c.arr.size) : c.arr[0]'h = I c.kind := rfl
@[go_sem] theorem CdV.get9' (c : CdV) (h : 9 < c.arr.size) : c.arr[9]'h = I c.pw := rfl
@[go_sem] theorem CdV.get10' (c : CdV) (h : 10 < c.arr.size) : c.arr[10]'h = I c.tf := rfl
@[go_sem] theorem CdV.get11' (c : CdV) (h : 11 < c.arr.size) : c.arr[11]'h = I c.says := rfl
@[go_sem] theorem CdV.get12' (c : CdV) (h : 12 < c.arr.size) : c.arr[12]'h = c.abs.val := rfl
@[go_sem] theorem CdV.set9 (c : CdV) (x : Int) : c.arr.setIfInBounds 9 (.int .i64 x) = CdV.arr { c with pw := x } := rfl
@[go_sem] theorem CdV.set10 (c : CdV) (x : Int) : c.arr.setIfInBounds 10 (.int .i64 x) = CdV.arr { c with tf := x } := rfl
@[go_sem] theorem CdV.set11 (c : CdV) (x : Int) : c.arr.setIfInBounds 11 (.int .i64 x) = CdV.arr { c with says := x } := rfl
@[go_sem] theorem CdV.set12 (c : CdV) (s : Sl) : c.arr.setIfInBounds 12 s.val = CdV.arr { c with abs := s } := rfl
@[go_sem] theorem CdV.set12' (c : CdV) (b o n k : Nat) : c.arr.setIfInBounds 12 (.slice (some ⟨b, o, none⟩) n k) = CdV.arr { c with abs := .mk b o n k } := rfl
@[go_sem] theorem z29 (w : World) (s : Sl) (q : IntKind) (i : Int) (h0 : 0 ≤ i) (h1 : i < s.n) : (Instr.indexAt 216 s.val (.int q i)).run Tryz.prog w = .ok (.pointer (some ⟨s.b, s.o + i.toNat * 13, none⟩)) w :=
 zbi w Tryz.underlying216 (fun w => (by kernel_rfl : (sizeOf 44).run Tryz.prog w = .ok 13 w)) s q i h0 h1
@[go_sem ↓] theorem yam (ρ : Operand → Value) (dst : Option Tmp) (x y : Operand) (ty : TypeId) (pos : String) (after : Array Edge) (guard : Option (Nat × Bool)) :
 execOp ρ { dst, op := .store 42 x y, type := ty, pos, after, guard } = zas 42 (ρ x) (ρ y) := rfl
@[go_sem] theorem z0v (w : World) (b o : Nat) (s : Sl) (h : (w.cell? ⟨b, o, none⟩).isSome = true) (hf : w.frozen? ⟨b, o, none⟩ = false) : (zas 42 (.pointer (some ⟨b, o, none⟩)) s.val).run Tryz.prog w = .ok .skip (w.setCell ⟨b, o, none⟩ s.val) :=
 zcj w b o 42 s (by kernel_rfl) h hf
def ztz : CardF := ⟨0, 0, false, [], 0, 0, 0, []⟩
theorem CardsOk.low {w : World} {k n : Nat} {l : List CdV} {m : List CardF} (h : CardsOk w n l m) (hk : k ≤ n) : CardsOk w k l m := ⟨h.1, fun i c d h1 h2 => (h.2 i c d h1 h2).low hk⟩
theorem zq1 (i : Nat) (hi : i < 12) (h8 : i ≠ 8) (h11 : i ≠ 11) : zef i = (zg7 ++ zk7).getD i ztz := by
 have : i = 0 ∨ i = 1 ∨ i = 2 ∨ i = 3 ∨ i = 4 ∨ i = 5 ∨ i = 6 ∨ i = 7 ∨ i = 9 ∨ i = 10 := by omega
 rcases this with rfl | rfl | rfl | rfl | rfl | rfl | rfl | rfl | rfl | rfl <;> rfl
theorem zhi {W : World} {y : Ext} {n i : Nat} (hi : i < 12) {l1 l2 : List CdV} {s2 : Sl} (h1 : ∀ c, c ∈ l1 → c.abs.c = c.abs.n) (h2 : ∀ c, c ∈ l2 → c.abs.c = c.abs.n) (o1 : CardsOk W n l1 zg7) (o2 : CardsOk W n l2 zk7)
 (c1 : Cells (W.plus y) s2 13 (zdr (l1.map CdV.arr) ++ zdr (l2.map CdV.arr))) :
 ∃ c : CdV, s2.b < (W.plus y).heap.size ∧ s2.o + i * 13 + 13 ≤ ((W.plus y).blk s2.b).size ∧ sub ((W.plus y).blk s2.b) (s2.o + i * 13) 13 = c.arr ∧ c.abs.c = c.abs.n ∧ CardIs W n c ((zg7 ++ zk7).getD i ztz) ∧ True := by
 have hR := Cells.rowsV (l := (l1 ++ l2).map CdV.arr) (by rw [List.map_append, zey]; exact c1) (by decide) (fun x hx => by obtain ⟨c, _, rfl⟩ := List.mem_map.1 hx; exact CdV.size c)
 have hO := o1.append o2
 have hl : (l1 ++ l2).length = 12 := hO.1
 have hc : (l1 ++ l2)[i]? = some (l1 ++ l2)[i] := List.getElem?_eq_getElem (by omega)
 obtain ⟨a1, a2, a3⟩ := hR.at (by decide) (i := i) (x := (l1 ++ l2)[i].arr) (by rw [List.getElem?_map, hc]; rfl)
 refine ⟨(l1 ++ l2)[i], a1, a2, a3, ?_, ?_, trivial⟩
 · rcases List.mem_append.1 (List.getElem_mem (by omega : i < (l1 ++ l2).length)) with h | h
   · exact h1 _ h
   · exact h2 _ h
 · have hm : (zg7 ++ zk7)[i]? = some ((zg7 ++ zk7).getD i ztz) := by
    have : i < (zg7 ++ zk7).length := hi
    rw [List.getD, List.getElem?_eq_getElem this]; rfl
   exact hO.2 i _ _ hc hm
set_option maxRecDepth 100000 in
set_option maxHeartbeats 2000000 in
theorem zq2 (w : World) (i : Nat) (hi : i < 12) : Calls Tryz.prog 156 #[.int .i64 (i : Int)] w fun r w' => ∃ c : CdV, r = .returned (.agg c.arr) ∧ CardIs w' w.heap.size c (zef i) ∧ Grow w w' := by
 have hi' : (i : Int) < 12 := by omega
 by_cases h8 : i = 8
 · have t8 : ((i : Int) == 8) = true := by simp; omega
   have HN : Hid (zef i = ⟨1, 5, false, [0, 0, 0, 0, 0, 2], 1, 1, 0, [abL ((specialL.getD 8 []).drop 6), zmd 2 5]⟩ ∧ (zg7 ++ zk7).getD i ztz = ⟨1, 5, false, [0, 0, 0, 0, 0, 2], 0, 0, 0, [abL ((specialL.getD 8 []).drop 6)]⟩) := by
    subst h8; exact ⟨rfl, rfl⟩
   clear h8
   go_enter Tryz.func156, Tryz.ntmps156
   go_wp2_with (first | (go_at_call 211; refine (zke _).mono ?_; rintro e' w' ⟨⟨b1, l1, rfl, hn1, hr1, hc1, ho1⟩, nx, rfl⟩; have H1 := Lib.hid (And.intro hr1 (And.intro hc1 ho1)); clear hr1 hc1 ho1 hn1) | (go_at_call 212; refine (zmm _).mono ?_; rintro e' w' ⟨⟨b2, l2, rfl, hn2, hr2, hc2, ho2⟩, nx, rfl⟩; (try simp only [zad] at hr2); (try simp only [zac] at hr2); (try simp only [zad] at ho2); (try simp only [zac] at ho2); have H2 := Lib.hid (And.intro hr2 (And.intro hc2 ho2)); clear hr2 hc2 ho2 hn2) | (at_builtin; refine zhj rfl _ _ 216 rfl 44 Tryz.t44 (.agg (CdV.arr ⟨0, 0, false, 0, 0, 0, 0, 0, 0, 0, 0, 0, .nil⟩)) 13 120 Tryz.underlying216 (by kernel_rfl) (by kernel_rfl) (by kernel_rfl) (by kernel_rfl) (by omega) rfl (.mk b1 0 6 6) (.mk b2 0 6 6) (zdr (l1.map CdV.arr)) (zdr (l2.map CdV.arr)) rfl rfl (H1.out.1.grow grI).cells (by show 6 < 12; decide) (H2.out.1.grow grI).cells (zds (by simp [CdV.one])) (by show 12 ≤ 4194304; decide) ?_; intro s2 y c1 c2 c3; obtain ⟨c, q1, q2, q3, q4, q5, q6⟩ := zhi hi H1.out.2.1 H2.out.2.1 (H1.out.2.2.grow grI) (H2.out.2.2.low (by first | (go_simp; done) | (go_simp; omega) | (simp only [Sl.b]; go_simp; omega))) c1; (try simp only [zad] at q1); (try simp only [zac] at q1); (try simp only [zad] at q2); (try simp only [zac] at q2); (try simp only [zad] at q3); (try simp only [zac] at q3); (rw [zab] at q1); (rw [zgn, if_neg (by simp only [zab, zaa] at c3 ⊢; omega)] at q2 q3); have hs2 : s2.n = 12 := c2; have q0 : w.heap.size + 1 ≤ s2.b := (by simp only [zab, zaa] at c3; omega); (simp only [zaa] at q1); have Q := Lib.hid (And.intro q4 (And.intro q5 q6)); clear c1 c2 c3 q4 q5 q6))
   obtain ⟨l, hl1, hl0, hl2⟩ := Q.out.2.1.abs
   rw [HN.out.2] at hl2
   have HL := Lib.hid (And.intro hl1 (And.intro hl0 hl2))
   have HCN : Hid (c.abs.n = 1) := by
    have h1 := hl1.len
    rw [List.length_map] at h1
    cases hl2 with
    | cons _ h => cases h; exact h1
   clear hl1 hl0 hl2
   go_region_law (first | (refine zak (by rfl) ?_; go_simp; go_at_call 197; refine (zmr _ _ _).mono ?_; rintro e' w' ⟨rfl, nz, rfl⟩) | (refine zpa (by rfl) _ _ 42 rfl 38 Tryz.t38 (.agg (AbV.arr ⟨0, 0, 0, 0, 0, 0, 0, false, 0, ⟨0, 0, 0, 0, .nil⟩⟩)) 14 128 Tryz.underlying42 (by kernel_rfl) (by kernel_rfl) (by kernel_rfl) (by kernel_rfl) (by omega) rfl c.abs (.mk _ 0 1 1) (zdr (l.map AbV.arr)) (zdr [AbV.arr ⟨6, 0, 0, 0, 0, 0, 0, true, 0, ⟨15, 2, 5, 0, .nil⟩⟩]) rfl rfl (HL.out.1.grow grI).cells (by have := Q.out.1; show c.abs.c < c.abs.n + 1; omega) (RowsV.one (x := AbV.arr _) (by go_simp) (by go_simp) (by go_simp)).cells (zds (by simp [AbV.one])) (by have := HCN.out; show c.abs.n + 1 ≤ 4194304; omega) ?_; intro s3 y3 c1 c2 c3; have C := Lib.hid (And.intro c1 (And.intro c2 c3)); clear c1 c2 c3))
   all_goals go_wp2_with fail
   all_goals refine bodyPost_ret (zbm rfl _ _ _ rfl ?_) rfl ?_
   all_goals first | (go_simp; done) | skip
   all_goals
    obtain ⟨c1, c2, c3⟩ := C.out
    obtain ⟨hl1, hl0, hl2⟩ := HL.out
    have hq := Q.out.2.1
    rw [HN.out.2] at hq
    rw [HN.out.1]
    have hr := Cells.rowsV (l := l.map AbV.arr ++ [AbV.arr ⟨6, 0, 0, 0, 0, 0, 0, true, 0, ⟨15, 2, 5, 0, .nil⟩⟩]) (by rw [zey]; exact c1) (by decide) (by
     intro x hx
     rcases List.mem_append.1 hx with h | h
     · obtain ⟨a, _, rfl⟩ := List.mem_map.1 h; exact AbV.size a
     · rw [List.mem_singleton.1 h]; exact AbV.size _)
    clear c1
    simp only [zab, zaa] at c3
    refine ⟨{ c with pw := 1, tf := 1, abs := s3 }, by go_simp, ⟨hq.kind, hq.col, hq.fast, hq.cost, rfl, rfl, hq.says, l ++ [⟨6, 0, 0, 0, 0, 0, 0, true, 0, ⟨15, 2, 5, 0, .nil⟩⟩], ?_, .inr ?_, ?_⟩, grI⟩
    · rw [List.map_append]
      exact ((hr.off (Off.plus (Off.alloc (Off.plus (Off.base _ _ _ _ rfl) _) _) _) (by simp only [zab, zaa]; omega)).off (b := w.heap.size) (Off.plus (Off.alloc (Off.plus (Off.alloc (Off.plus (Off.base w _ _ _ rfl) _) _) _) _) _) (by omega)).grow grI
    · show w.heap.size ≤ s3.b
      omega
    · refine AbsIs.append (m := [abL ((specialL.getD 8 []).drop 6)]) ?_ (.cons ⟨rfl, rfl, rfl, rfl, EfIs.plain _ _ _ _ _ _⟩ .nil)
      exact (((hl2.off (b := w.heap.size) (Off.plus (Off.base w _ _ _ rfl) _) (by first | (go_simp; done) | (go_simp; omega) | (simp only [Sl.b]; go_simp; omega))).less (by first | (go_simp; done) | (go_simp; omega) | (simp only [Sl.b]; go_simp; omega))).grow grI)
 · by_cases h11 : i = 11
   · have t8 : ((i : Int) == 8) = false := by simp; omega
     have t11 : ((i : Int) == 11) = true := by simp; omega
     have HN : Hid (zef i = ⟨1, 5, true, [0, 0, 0, 0, 0, 3], 2, 3, 5, [abL ((specialL.getD 11 []).drop 6)]⟩ ∧ (zg7 ++ zk7).getD i ztz = ⟨1, 5, true, [0, 0, 0, 0, 0, 3], 0, 0, 0, [abL ((specialL.getD 11 []).drop 6)]⟩) := by
      subst h11; exact ⟨rfl, rfl⟩
     clear h11 h8
     go_enter Tryz.func156, Tryz.ntmps156
     go_wp2_with (first | (go_at_call 211; refine (zke _).mono ?_; rintro e' w' ⟨⟨b1, l1, rfl, hn1, hr1, hc1, ho1⟩, nx, rfl⟩; have H1 := Lib.hid (And.intro hr1 (And.intro hc1 ho1)); clear hr1 hc1 ho1 hn1) | (go_at_call 212; refine (zmm _).mono ?_; rintro e' w' ⟨⟨b2, l2, rfl, hn2, hr2, hc2, ho2⟩, nx, rfl⟩; (try simp only [zad] at hr2); (try simp only [zac] at hr2); (try simp only [zad] at ho2); (try simp only [zac] at ho2); have H2 := Lib.hid (And.intro hr2 (And.intro hc2 ho2)); clear hr2 hc2 ho2 hn2) | (at_builtin; refine zhj rfl _ _ 216 rfl 44 Tryz.t44 (.agg (CdV.arr ⟨0, 0, false, 0, 0, 0, 0, 0, 0, 0, 0, 0, .nil⟩)) 13 120 Tryz.underlying216 (by kernel_rfl) (by kernel_rfl) (by kernel_rfl) (by kernel_rfl) (by omega) rfl (.mk b1 0 6 6) (.mk b2 0 6 6) (zdr (l1.map CdV.arr)) (zdr (l2.map CdV.arr)) rfl rfl (H1.out.1.grow grI).cells (by show 6 < 12; decide) (H2.out.1.grow grI).cells (zds (by simp [CdV.one])) (by show 12 ≤ 4194304; decide) ?_; intro s2 y c1 c2 c3; obtain ⟨c, q1, q2, q3, q4, q5, q6⟩ := zhi hi H1.out.2.1 H2.out.2.1 (H1.out.2.2.grow grI) (H2.out.2.2.low (by first | (go_simp; done) | (go_simp; omega) | (simp only [Sl.b]; go_simp; omega))) c1; (try simp only [zad] at q1); (try simp only [zac] at q1); (try simp only [zad] at q2); (try simp only [zac] at q2); (try simp only [zad] at q3); (try simp only [zac] at q3); (rw [zab] at q1); (rw [zgn, if_neg (by simp only [zab, zaa] at c3 ⊢; omega)] at q2 q3); have hs2 : s2.n = 12 := c2; have q0 : w.heap.size + 1 ≤ s2.b := (by simp only [zab, zaa] at c3; omega); (simp only [zaa] at q1); have Q := Lib.hid (And.intro q4 (And.intro q5 q6)); clear c1 c2 c3 q4 q5 q6))
     refine bodyPost_ret (zbm rfl _ _ _ rfl ?_) rfl ?_
     · go_simp
     · refine ⟨{ c with pw := 2, tf := 3, says := 5 }, by go_simp, ?_, grI⟩
       have hq := Q.out.2.1
       rw [HN.out.2] at hq
       rw [HN.out.1]
       refine CardIs.tune (d := ⟨1, 5, true, [0, 0, 0, 0, 0, 3], 0, 0, 0, [abL ((specialL.getD 11 []).drop 6)]⟩) (c := c) ?_ 2 3 5
       exact hq.to (b := w.heap.size) grI (Off.plus (Off.base w _ _ _ rfl) _) (by first | (go_simp; done) | (go_simp; omega) | (simp only [Sl.b]; go_simp; omega)) (by first | (go_simp; done) | (go_simp; omega) | (simp only [Sl.b]; go_simp; omega)) grI
   · have t8 : ((i : Int) == 8) = false := by simp; omega
     have t11 : ((i : Int) == 11) = false := by simp; omega
     have HN : Hid (zef i = (zg7 ++ zk7).getD i ztz) := zq1 i hi h8 h11
     go_enter Tryz.func156, Tryz.ntmps156
     go_wp2_with (first | (go_at_call 211; refine (zke _).mono ?_; rintro e' w' ⟨⟨b1, l1, rfl, hn1, hr1, hc1, ho1⟩, nx, rfl⟩; have H1 := Lib.hid (And.intro hr1 (And.intro hc1 ho1)); clear hr1 hc1 ho1 hn1) | (go_at_call 212; refine (zmm _).mono ?_; rintro e' w' ⟨⟨b2, l2, rfl, hn2, hr2, hc2, ho2⟩, nx, rfl⟩; (try simp only [zad] at hr2); (try simp only [zac] at hr2); (try simp only [zad] at ho2); (try simp only [zac] at ho2); have H2 := Lib.hid (And.intro hr2 (And.intro hc2 ho2)); clear hr2 hc2 ho2 hn2) | (at_builtin; refine zhj rfl _ _ 216 rfl 44 Tryz.t44 (.agg (CdV.arr ⟨0, 0, false, 0, 0, 0, 0, 0, 0, 0, 0, 0, .nil⟩)) 13 120 Tryz.underlying216 (by kernel_rfl) (by kernel_rfl) (by kernel_rfl) (by kernel_rfl) (by omega) rfl (.mk b1 0 6 6) (.mk b2 0 6 6) (zdr (l1.map CdV.arr)) (zdr (l2.map CdV.arr)) rfl rfl (H1.out.1.grow grI).cells (by show 6 < 12; decide) (H2.out.1.grow grI).cells (zds (by simp [CdV.one])) (by show 12 ≤ 4194304; decide) ?_; intro s2 y c1 c2 c3; obtain ⟨c, q1, q2, q3, q4, q5, q6⟩ := zhi hi H1.out.2.1 H2.out.2.1 (H1.out.2.2.grow grI) (H2.out.2.2.low (by first | (go_simp; done) | (go_simp; omega) | (simp only [Sl.b]; go_simp; omega))) c1; (try simp only [zad] at q1); (try simp only [zac] at q1); (try simp only [zad] at q2); (try simp only [zac] at q2); (try simp only [zad] at q3); (try simp only [zac] at q3); (rw [zab] at q1); (rw [zgn, if_neg (by simp only [zab, zaa] at c3 ⊢; omega)] at q2 q3); have hs2 : s2.n = 12 := c2; have q0 : w.heap.size + 1 ≤ s2.b := (by simp only [zab, zaa] at c3; omega); (simp only [zaa] at q1); have Q := Lib.hid (And.intro q4 (And.intro q5 q6)); clear c1 c2 c3 q4 q5 q6))
     refine bodyPost_ret (zbm rfl _ _ _ rfl ?_) rfl ?_
     · go_simp
     · refine ⟨c, by go_simp, ?_, grI⟩
       rw [HN.out]
       exact Q.out.2.1.to (b := w.heap.size) grI (Off.plus (Off.base w _ _ _ rfl) _) (by first | (go_simp; done) | (go_simp; omega) | (simp only [Sl.b]; go_simp; omega)) (by first | (go_simp; done) | (go_simp; omega) | (simp only [Sl.b]; go_simp; omega)) grI
end Go.Proofs.YtgobdndjemicjaaGreatDoor
