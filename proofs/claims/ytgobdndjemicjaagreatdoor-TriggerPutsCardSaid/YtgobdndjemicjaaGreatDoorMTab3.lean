/- The cards without a colour: one ability each. -/
import Derived.Test.YtgobdndjemicjaaGreatDoorMSpells
import Derived.Test.YtgobdndjemicjaaGreatDoorMMade
namespace Go.Proofs.YtgobdndjemicjaaGreatDoor
open Go Go.RowKit
def CardsOk (w : World) (n : Nat) (l : List CdV) (m : List CardF) : Prop := l.length = m.length ∧ ∀ (i : Nat) (c : CdV) (d : CardF), l[i]? = some c → m[i]? = some d → CardIs w n c d
theorem CardsOk.nil (w : World) (n : Nat) : CardsOk w n [] [] := ⟨rfl, fun i c d h => by simp at h⟩
theorem CardsOk.cons {w : World} {n : Nat} {c : CdV} {d : CardF} {l : List CdV} {m : List CardF} (h : CardIs w n c d) (hl : CardsOk w n l m) : CardsOk w n (c :: l) (d :: m) := by
 refine ⟨by rw [List.length_cons, List.length_cons, hl.1], fun i c' d' h1 h2 => ?_⟩
 cases i with
 | zero =>
   simp only [List.getElem?_cons_zero, Option.some.injEq] at h1 h2
   subst h1; subst h2; exact h
 | succ i =>
   simp only [List.getElem?_cons_succ] at h1 h2
   exact hl.2 i c' d' h1 h2
theorem CardsOk.grow {w w' : World} {n : Nat} {l : List CdV} {m : List CardF} (h : CardsOk w n l m) (g : Grow w w') : CardsOk w' n l m := ⟨h.1, fun i c d h1 h2 => (h.2 i c d h1 h2).grow g⟩
theorem CardsOk.append {w : World} {n : Nat} {l l' : List CdV} {m m' : List CardF} (h : CardsOk w n l m) (h' : CardsOk w n l' m') : CardsOk w n (l ++ l') (m ++ m') := by
 refine ⟨by rw [List.length_append, List.length_append, h.1, h'.1], fun i c d h1 h2 => ?_⟩
 by_cases hi : i < l.length
 · rw [List.getElem?_append_left hi] at h1
   rw [List.getElem?_append_left (by rw [← h.1]; exact hi)] at h2
   exact h.2 i c d h1 h2
 · rw [List.getElem?_append_right (by omega)] at h1
   rw [List.getElem?_append_right (by rw [← h.1]; omega), ← h.1] at h2
   exact h'.2 _ c d h1 h2
@[go_sem] theorem zvy (w : World) (a : Int) (f : Bool) (c0 c1 c2 c3 c4 c5 : Int) (k o n c : Nat) : (za2 44 #[(0, .int .i64 a), (1, .int .i64 5), (2, .bool f), (3, .agg (cellsOf [c0, c1, c2, c3, c4, c5])), (7, .slice (some ⟨k, o, none⟩) n c)]).run Tryz.prog w = .ok (.value (.agg (CdV.arr ⟨a, 5, f, c0, c1, c2, c3, c4, c5, 0, 0, 0, .mk k o n c⟩))) w := by kernel_rfl
set_option maxRecDepth 100000 in
set_option maxHeartbeats 1000000 in
theorem zca (w : World) (kind price : Int) (fast : Bool) (a : AbV) (d : AbF) (n : Nat) (h : AbIs w n a d) (hn : n ≤ w.heap.size) (hp : zj9 (Int.toNat 5) 0 price = noCost.set 5 price) : Calls Tryz.prog 246 #[.int .i64 kind, .int .i64 price, .bool fast, .agg a.arr] w fun r w' => ∃ c : CdV, r = .returned (.agg c.arr) ∧ c.abs.c = c.abs.n ∧ CardIs w' n c ⟨kind, 5, fast, noCost.set 5 price, 0, 0, 0, [d]⟩ ∧ Grow w w' := by
 have H := Lib.hid h
 have HPr := Lib.hid hp
 clear h hp
 go_enter Tryz.func246, Tryz.ntmps246
 go_wp2_with fail
 go_region_law (first | (refine zak (by rfl) ?_; go_simp; go_at_call 153; refine (za4 _ _ _ _ (by decide) (by decide)).mono ?_; rintro e' w' ⟨d0, d1, d2, d3, d4, d5, rfl, hc, nx, rfl⟩; have HC := Lib.hid hc; clear hc))
 all_goals go_wp2_with fail
 all_goals refine bodyPost_ret (zbm rfl _ _ _ rfl ?_) rfl ?_
 all_goals first | (go_simp; done) | skip
 all_goals (refine ⟨_, (by go_simp; rfl), rfl, ⟨rfl, rfl, rfl, HC.out.trans HPr.out, rfl, rfl, rfl, [a], ?_, .inr (by first | (go_simp; done) | (go_simp; omega) | (simp only [Sl.b]; go_simp; omega)), .cons (H.out.grow grI) .nil⟩, grI⟩; exact RowsV.one (x := a.arr) (by go_simp) (by go_simp) (by go_simp))
@[go_sem ↓] theorem z5r (ρ : Operand → Value) (dst : Option Tmp) (n : Nat) (parts : Array (Nat × Operand)) (ty : TypeId) (pos : String) (after : Array Edge) (guard : Option (Nat × Bool)) :
 execOp ρ { dst, op := .buildSlice 216 n parts, type := ty, pos, after, guard } = zc7 216 n (parts.map fun (i, x) => (i, ρ x)) := rfl
theorem zoz (w : World) (a b c d e f : CdV) : (zc7 216 6 #[(0, .agg a.arr), (1, .agg b.arr), (2, .agg c.arr), (3, .agg d.arr), (4, .agg e.arr), (5, .agg f.arr)]).run Tryz.prog w = .ok (.value (.slice (some ⟨w.heap.size, 0, none⟩) 6 6)) (w.alloc (.cells (zen [a.arr, b.arr, c.arr, d.arr, e.arr, f.arr]) 44)) := by
 have h := zqv (P := Tryz.prog) w 216 44 6 13 Tryz.t44 Tryz.underlying216 (fun w => by kernel_rfl) (by kernel_rfl) (by kernel_rfl) (by decide) (by decide) (by decide) [a.arr, b.arr, c.arr, d.arr, e.arr, f.arr] rfl (by simp [CdV.size])
 exact h
attribute [go_sem] zoz
def Six (w : World) (n : Nat) (r : Ending) (m : List CardF) : Prop := ∃ (b : Nat) (l : List CdV), r = .returned (.slice (some ⟨b, 0, none⟩) 6 6) ∧ n ≤ b ∧ RowsV w (.mk b 0 6 6) 13 (l.map CdV.arr) ∧ (∀ c, c ∈ l → c.abs.c = c.abs.n) ∧ CardsOk w n l m
set_option maxRecDepth 100000 in
set_option maxHeartbeats 4000000 in
theorem zke (w : World) : Calls Tryz.prog 211 #[] w fun r w' => Six w' w.heap.size r zg7 ∧ Grow w w' := by
 go_enter Tryz.func211, Tryz.ntmps211
 go_wp2_with (first | (go_at_call 199; refine (zbl _ _ _ _ _).mono ?_; rintro e' w' ⟨rfl, nx, rfl⟩) | (go_at_call 243; refine (zc2 _ _ _).mono ?_; rintro e' w' ⟨rfl, nx, rfl⟩) | (go_at_call 198; refine (zbo _ _ _).mono ?_; rintro e' w' ⟨rfl, nx, rfl⟩) | (go_at_call 244; refine (zbg _ _ _ _ _).mono ?_; rintro e' w' ⟨s1, rfl, ⟨hR, hb⟩, nx, rfl⟩; (try simp only [zad] at hR); (try simp only [zac] at hR); (try simp only [zad] at hb); (try simp only [zac] at hb); have HR := Lib.hid (And.intro hR hb); clear hR hb) | (go_at_call 153; refine (za4 _ _ _ _ (by decide) (by decide)).mono ?_; rintro e' w' ⟨d0, d1, d2, d3, d4, d5, rfl, hc, nx, rfl⟩; have HC := Lib.hid hc; clear hc) | (go_at_call 200; refine (za0 _ _ _ _ _ _ _ _ _ _).mono ?_; rintro e' w' ⟨rfl, nx, rfl⟩))
 refine (zca _ _ _ _ _ (abL ((specialL.getD 0 []).drop 6)) w.heap.size (AbIs.plain _ _ _ _ _ _ _ _ _ _ _ _ _ _ _ (abL ((specialL.getD 0 []).drop 6)) (by rfl) (by rfl) (by rfl) (by rfl) (by rfl)) (by first | (go_simp; done) | (go_simp; omega) | (simp only [Sl.b]; go_simp; omega)) (by decide +kernel)).mono ?_
 rintro e' w' ⟨k0, rfl, hcc, hc, nx, rfl⟩
 (try simp only [zad] at hc); (try simp only [zac] at hc)
 have h0 := Lib.hid (And.intro hcc hc)
 clear hc hcc
 go_wp2_with (first | (go_at_call 199; refine (zbl _ _ _ _ _).mono ?_; rintro e' w' ⟨rfl, nx, rfl⟩) | (go_at_call 243; refine (zc2 _ _ _).mono ?_; rintro e' w' ⟨rfl, nx, rfl⟩) | (go_at_call 198; refine (zbo _ _ _).mono ?_; rintro e' w' ⟨rfl, nx, rfl⟩) | (go_at_call 244; refine (zbg _ _ _ _ _).mono ?_; rintro e' w' ⟨s1, rfl, ⟨hR, hb⟩, nx, rfl⟩; (try simp only [zad] at hR); (try simp only [zac] at hR); (try simp only [zad] at hb); (try simp only [zac] at hb); have HR := Lib.hid (And.intro hR hb); clear hR hb) | (go_at_call 153; refine (za4 _ _ _ _ (by decide) (by decide)).mono ?_; rintro e' w' ⟨d0, d1, d2, d3, d4, d5, rfl, hc, nx, rfl⟩; have HC := Lib.hid hc; clear hc) | (go_at_call 200; refine (za0 _ _ _ _ _ _ _ _ _ _).mono ?_; rintro e' w' ⟨rfl, nx, rfl⟩))
 refine (zca _ _ _ _ _ (abL ((specialL.getD 1 []).drop 6)) w.heap.size (AbIs.plain _ _ _ _ _ _ _ _ _ _ _ _ _ _ _ (abL ((specialL.getD 1 []).drop 6)) (by rfl) (by rfl) (by rfl) (by rfl) (by rfl)) (by first | (go_simp; done) | (go_simp; omega) | (simp only [Sl.b]; go_simp; omega)) (by decide +kernel)).mono ?_
 rintro e' w' ⟨k1, rfl, hcc, hc, nx, rfl⟩
 (try simp only [zad] at hc); (try simp only [zac] at hc)
 have h1 := Lib.hid (And.intro hcc hc)
 clear hc hcc
 go_wp2_with (first | (go_at_call 199; refine (zbl _ _ _ _ _).mono ?_; rintro e' w' ⟨rfl, nx, rfl⟩) | (go_at_call 243; refine (zc2 _ _ _).mono ?_; rintro e' w' ⟨rfl, nx, rfl⟩) | (go_at_call 198; refine (zbo _ _ _).mono ?_; rintro e' w' ⟨rfl, nx, rfl⟩) | (go_at_call 244; refine (zbg _ _ _ _ _).mono ?_; rintro e' w' ⟨s1, rfl, ⟨hR, hb⟩, nx, rfl⟩; (try simp only [zad] at hR); (try simp only [zac] at hR); (try simp only [zad] at hb); (try simp only [zac] at hb); have HR := Lib.hid (And.intro hR hb); clear hR hb) | (go_at_call 153; refine (za4 _ _ _ _ (by decide) (by decide)).mono ?_; rintro e' w' ⟨d0, d1, d2, d3, d4, d5, rfl, hc, nx, rfl⟩; have HC := Lib.hid hc; clear hc) | (go_at_call 200; refine (za0 _ _ _ _ _ _ _ _ _ _).mono ?_; rintro e' w' ⟨rfl, nx, rfl⟩))
 refine (zca _ _ _ _ _ (abL ((specialL.getD 2 []).drop 6)) w.heap.size (AbIs.plain _ _ _ _ _ _ _ _ _ _ _ _ _ _ _ (abL ((specialL.getD 2 []).drop 6)) (by rfl) (by rfl) (by rfl) (by rfl) (by rfl)) (by first | (go_simp; done) | (go_simp; omega) | (simp only [Sl.b]; go_simp; omega)) (by decide +kernel)).mono ?_
 rintro e' w' ⟨k2, rfl, hcc, hc, nx, rfl⟩
 (try simp only [zad] at hc); (try simp only [zac] at hc)
 have h2 := Lib.hid (And.intro hcc hc)
 clear hc hcc
 go_wp2_with (first | (go_at_call 199; refine (zbl _ _ _ _ _).mono ?_; rintro e' w' ⟨rfl, nx, rfl⟩) | (go_at_call 243; refine (zc2 _ _ _).mono ?_; rintro e' w' ⟨rfl, nx, rfl⟩) | (go_at_call 198; refine (zbo _ _ _).mono ?_; rintro e' w' ⟨rfl, nx, rfl⟩) | (go_at_call 244; refine (zbg _ _ _ _ _).mono ?_; rintro e' w' ⟨s1, rfl, ⟨hR, hb⟩, nx, rfl⟩; (try simp only [zad] at hR); (try simp only [zac] at hR); (try simp only [zad] at hb); (try simp only [zac] at hb); have HR := Lib.hid (And.intro hR hb); clear hR hb) | (go_at_call 153; refine (za4 _ _ _ _ (by decide) (by decide)).mono ?_; rintro e' w' ⟨d0, d1, d2, d3, d4, d5, rfl, hc, nx, rfl⟩; have HC := Lib.hid hc; clear hc) | (go_at_call 200; refine (za0 _ _ _ _ _ _ _ _ _ _).mono ?_; rintro e' w' ⟨rfl, nx, rfl⟩))
 refine (zca _ _ _ _ _ (abL ((specialL.getD 3 []).drop 6)) w.heap.size (AbIs.plain _ _ _ _ _ _ _ _ _ _ _ _ _ _ _ (abL ((specialL.getD 3 []).drop 6)) (by rfl) (by rfl) (by rfl) (by rfl) (by rfl)) (by first | (go_simp; done) | (go_simp; omega) | (simp only [Sl.b]; go_simp; omega)) (by decide +kernel)).mono ?_
 rintro e' w' ⟨k3, rfl, hcc, hc, nx, rfl⟩
 (try simp only [zad] at hc); (try simp only [zac] at hc)
 have h3 := Lib.hid (And.intro hcc hc)
 clear hc hcc
 go_wp2_with (first | (go_at_call 199; refine (zbl _ _ _ _ _).mono ?_; rintro e' w' ⟨rfl, nx, rfl⟩) | (go_at_call 243; refine (zc2 _ _ _).mono ?_; rintro e' w' ⟨rfl, nx, rfl⟩) | (go_at_call 198; refine (zbo _ _ _).mono ?_; rintro e' w' ⟨rfl, nx, rfl⟩) | (go_at_call 244; refine (zbg _ _ _ _ _).mono ?_; rintro e' w' ⟨s1, rfl, ⟨hR, hb⟩, nx, rfl⟩; (try simp only [zad] at hR); (try simp only [zac] at hR); (try simp only [zad] at hb); (try simp only [zac] at hb); have HR := Lib.hid (And.intro hR hb); clear hR hb) | (go_at_call 153; refine (za4 _ _ _ _ (by decide) (by decide)).mono ?_; rintro e' w' ⟨d0, d1, d2, d3, d4, d5, rfl, hc, nx, rfl⟩; have HC := Lib.hid hc; clear hc) | (go_at_call 200; refine (za0 _ _ _ _ _ _ _ _ _ _).mono ?_; rintro e' w' ⟨rfl, nx, rfl⟩))
 refine (zca _ _ _ _ _ (abL ((specialL.getD 4 []).drop 6)) w.heap.size (AbIs.plain _ _ _ _ _ _ _ _ _ _ _ _ _ _ _ (abL ((specialL.getD 4 []).drop 6)) (by rfl) (by rfl) (by rfl) (by rfl) (by rfl)) (by first | (go_simp; done) | (go_simp; omega) | (simp only [Sl.b]; go_simp; omega)) (by decide +kernel)).mono ?_
 rintro e' w' ⟨k4, rfl, hcc, hc, nx, rfl⟩
 (try simp only [zad] at hc); (try simp only [zac] at hc)
 have h4 := Lib.hid (And.intro hcc hc)
 clear hc hcc
 go_wp2_with (first | (go_at_call 199; refine (zbl _ _ _ _ _).mono ?_; rintro e' w' ⟨rfl, nx, rfl⟩) | (go_at_call 243; refine (zc2 _ _ _).mono ?_; rintro e' w' ⟨rfl, nx, rfl⟩) | (go_at_call 198; refine (zbo _ _ _).mono ?_; rintro e' w' ⟨rfl, nx, rfl⟩) | (go_at_call 244; refine (zbg _ _ _ _ _).mono ?_; rintro e' w' ⟨s1, rfl, ⟨hR, hb⟩, nx, rfl⟩; (try simp only [zad] at hR); (try simp only [zac] at hR); (try simp only [zad] at hb); (try simp only [zac] at hb); have HR := Lib.hid (And.intro hR hb); clear hR hb) | (go_at_call 153; refine (za4 _ _ _ _ (by decide) (by decide)).mono ?_; rintro e' w' ⟨d0, d1, d2, d3, d4, d5, rfl, hc, nx, rfl⟩; have HC := Lib.hid hc; clear hc) | (go_at_call 200; refine (za0 _ _ _ _ _ _ _ _ _ _).mono ?_; rintro e' w' ⟨rfl, nx, rfl⟩))
 refine (zca _ _ _ _ _ (abL ((specialL.getD 5 []).drop 6)) w.heap.size (AbIs.plain _ _ _ _ _ _ _ _ _ _ _ _ _ _ _ (abL ((specialL.getD 5 []).drop 6)) (by rfl) (by rfl) (by rfl) (by rfl) (by rfl)) (by first | (go_simp; done) | (go_simp; omega) | (simp only [Sl.b]; go_simp; omega)) (by decide +kernel)).mono ?_
 rintro e' w' ⟨k5, rfl, hcc, hc, nx, rfl⟩
 (try simp only [zad] at hc); (try simp only [zac] at hc)
 have h5 := Lib.hid (And.intro hcc hc)
 clear hc hcc
 go_wp2_with fail
 go_ret
 refine ⟨⟨_, [k0, k1, k2, k3, k4, k5], rfl, ?_, ?_, by simp [h0.out.1, h1.out.1, h2.out.1, h3.out.1, h4.out.1, h5.out.1], (.cons (h0.out.2.grow grI) (.cons (h1.out.2.grow grI) (.cons (h2.out.2.grow grI) (.cons (h3.out.2.grow grI) (.cons (h4.out.2.grow grI) (.cons (h5.out.2.grow grI) (.nil _ _)))))))⟩, grI⟩
 · exact (by first | (go_simp; done) | (go_simp; omega) | (simp only [Sl.b]; go_simp; omega))
 · exact RowsV.many (by go_simp) (by go_simp) (by simp [CdV.size]) rfl
set_option maxRecDepth 100000 in
set_option maxHeartbeats 4000000 in
theorem zmm (w : World) : Calls Tryz.prog 212 #[] w fun r w' => Six w' w.heap.size r zk7 ∧ Grow w w' := by
 go_enter Tryz.func212, Tryz.ntmps212
 go_wp2_with (first | (go_at_call 199; refine (zbl _ _ _ _ _).mono ?_; rintro e' w' ⟨rfl, nx, rfl⟩) | (go_at_call 243; refine (zc2 _ _ _).mono ?_; rintro e' w' ⟨rfl, nx, rfl⟩) | (go_at_call 198; refine (zbo _ _ _).mono ?_; rintro e' w' ⟨rfl, nx, rfl⟩) | (go_at_call 244; refine (zbg _ _ _ _ _).mono ?_; rintro e' w' ⟨s1, rfl, ⟨hR, hb⟩, nx, rfl⟩; (try simp only [zad] at hR); (try simp only [zac] at hR); (try simp only [zad] at hb); (try simp only [zac] at hb); have HR := Lib.hid (And.intro hR hb); clear hR hb) | (go_at_call 153; refine (za4 _ _ _ _ (by decide) (by decide)).mono ?_; rintro e' w' ⟨d0, d1, d2, d3, d4, d5, rfl, hc, nx, rfl⟩; have HC := Lib.hid hc; clear hc) | (go_at_call 200; refine (za0 _ _ _ _ _ _ _ _ _ _).mono ?_; rintro e' w' ⟨rfl, nx, rfl⟩))
 refine (zca _ _ _ _ _ (abL ((specialL.getD 6 []).drop 6)) w.heap.size (AbIs.deep _ _ _ _ _ _ _ _ _ _ _ _ _ _ _ _ (abL ((specialL.getD 6 []).drop 6)) [[7, 0, 0, 2]] (by rfl) (by rfl) (by rfl) (by rfl) (by rfl) (HR.out.1.grow grI) (Nat.le_trans (by first | (go_simp; done) | (go_simp; omega) | (simp only [Sl.b]; go_simp; omega)) HR.out.2)) (by first | (go_simp; done) | (go_simp; omega) | (simp only [Sl.b]; go_simp; omega)) (by decide +kernel)).mono ?_
 rintro e' w' ⟨k6, rfl, hcc, hc, nx, rfl⟩
 (try simp only [zad] at hc); (try simp only [zac] at hc)
 have h6 := Lib.hid (And.intro hcc hc)
 clear hc hcc
 go_wp2_with (first | (go_at_call 199; refine (zbl _ _ _ _ _).mono ?_; rintro e' w' ⟨rfl, nx, rfl⟩) | (go_at_call 243; refine (zc2 _ _ _).mono ?_; rintro e' w' ⟨rfl, nx, rfl⟩) | (go_at_call 198; refine (zbo _ _ _).mono ?_; rintro e' w' ⟨rfl, nx, rfl⟩) | (go_at_call 244; refine (zbg _ _ _ _ _).mono ?_; rintro e' w' ⟨s1, rfl, ⟨hR, hb⟩, nx, rfl⟩; (try simp only [zad] at hR); (try simp only [zac] at hR); (try simp only [zad] at hb); (try simp only [zac] at hb); have HR := Lib.hid (And.intro hR hb); clear hR hb) | (go_at_call 153; refine (za4 _ _ _ _ (by decide) (by decide)).mono ?_; rintro e' w' ⟨d0, d1, d2, d3, d4, d5, rfl, hc, nx, rfl⟩; have HC := Lib.hid hc; clear hc) | (go_at_call 200; refine (za0 _ _ _ _ _ _ _ _ _ _).mono ?_; rintro e' w' ⟨rfl, nx, rfl⟩))
 refine (zca _ _ _ _ _ (abL ((specialL.getD 7 []).drop 6)) w.heap.size (AbIs.plain _ _ _ _ _ _ _ _ _ _ _ _ _ _ _ (abL ((specialL.getD 7 []).drop 6)) (by rfl) (by rfl) (by rfl) (by rfl) (by rfl)) (by first | (go_simp; done) | (go_simp; omega) | (simp only [Sl.b]; go_simp; omega)) (by decide +kernel)).mono ?_
 rintro e' w' ⟨k7, rfl, hcc, hc, nx, rfl⟩
 (try simp only [zad] at hc); (try simp only [zac] at hc)
 have h7 := Lib.hid (And.intro hcc hc)
 clear hc hcc
 go_wp2_with (first | (go_at_call 199; refine (zbl _ _ _ _ _).mono ?_; rintro e' w' ⟨rfl, nx, rfl⟩) | (go_at_call 243; refine (zc2 _ _ _).mono ?_; rintro e' w' ⟨rfl, nx, rfl⟩) | (go_at_call 198; refine (zbo _ _ _).mono ?_; rintro e' w' ⟨rfl, nx, rfl⟩) | (go_at_call 244; refine (zbg _ _ _ _ _).mono ?_; rintro e' w' ⟨s1, rfl, ⟨hR, hb⟩, nx, rfl⟩; (try simp only [zad] at hR); (try simp only [zac] at hR); (try simp only [zad] at hb); (try simp only [zac] at hb); have HR := Lib.hid (And.intro hR hb); clear hR hb) | (go_at_call 153; refine (za4 _ _ _ _ (by decide) (by decide)).mono ?_; rintro e' w' ⟨d0, d1, d2, d3, d4, d5, rfl, hc, nx, rfl⟩; have HC := Lib.hid hc; clear hc) | (go_at_call 200; refine (za0 _ _ _ _ _ _ _ _ _ _).mono ?_; rintro e' w' ⟨rfl, nx, rfl⟩))
 refine (zca _ _ _ _ _ (abL ((specialL.getD 8 []).drop 6)) w.heap.size (AbIs.plain _ _ _ _ _ _ _ _ _ _ _ _ _ _ _ (abL ((specialL.getD 8 []).drop 6)) (by rfl) (HC.out.trans zgp) (by rfl) (by rfl) (by rfl)) (by first | (go_simp; done) | (go_simp; omega) | (simp only [Sl.b]; go_simp; omega)) (by decide +kernel)).mono ?_
 rintro e' w' ⟨k8, rfl, hcc, hc, nx, rfl⟩
 (try simp only [zad] at hc); (try simp only [zac] at hc)
 have h8 := Lib.hid (And.intro hcc hc)
 clear hc hcc
 go_wp2_with (first | (go_at_call 199; refine (zbl _ _ _ _ _).mono ?_; rintro e' w' ⟨rfl, nx, rfl⟩) | (go_at_call 243; refine (zc2 _ _ _).mono ?_; rintro e' w' ⟨rfl, nx, rfl⟩) | (go_at_call 198; refine (zbo _ _ _).mono ?_; rintro e' w' ⟨rfl, nx, rfl⟩) | (go_at_call 244; refine (zbg _ _ _ _ _).mono ?_; rintro e' w' ⟨s1, rfl, ⟨hR, hb⟩, nx, rfl⟩; (try simp only [zad] at hR); (try simp only [zac] at hR); (try simp only [zad] at hb); (try simp only [zac] at hb); have HR := Lib.hid (And.intro hR hb); clear hR hb) | (go_at_call 153; refine (za4 _ _ _ _ (by decide) (by decide)).mono ?_; rintro e' w' ⟨d0, d1, d2, d3, d4, d5, rfl, hc, nx, rfl⟩; have HC := Lib.hid hc; clear hc) | (go_at_call 200; refine (za0 _ _ _ _ _ _ _ _ _ _).mono ?_; rintro e' w' ⟨rfl, nx, rfl⟩))
 refine (zca _ _ _ _ _ (abL ((specialL.getD 9 []).drop 6)) w.heap.size (AbIs.plain _ _ _ _ _ _ _ _ _ _ _ _ _ _ _ (abL ((specialL.getD 9 []).drop 6)) (by rfl) (by rfl) (by rfl) (by rfl) (by rfl)) (by first | (go_simp; done) | (go_simp; omega) | (simp only [Sl.b]; go_simp; omega)) (by decide +kernel)).mono ?_
 rintro e' w' ⟨k9, rfl, hcc, hc, nx, rfl⟩
 (try simp only [zad] at hc); (try simp only [zac] at hc)
 have h9 := Lib.hid (And.intro hcc hc)
 clear hc hcc
 go_wp2_with (first | (go_at_call 199; refine (zbl _ _ _ _ _).mono ?_; rintro e' w' ⟨rfl, nx, rfl⟩) | (go_at_call 243; refine (zc2 _ _ _).mono ?_; rintro e' w' ⟨rfl, nx, rfl⟩) | (go_at_call 198; refine (zbo _ _ _).mono ?_; rintro e' w' ⟨rfl, nx, rfl⟩) | (go_at_call 244; refine (zbg _ _ _ _ _).mono ?_; rintro e' w' ⟨s1, rfl, ⟨hR, hb⟩, nx, rfl⟩; (try simp only [zad] at hR); (try simp only [zac] at hR); (try simp only [zad] at hb); (try simp only [zac] at hb); have HR := Lib.hid (And.intro hR hb); clear hR hb) | (go_at_call 153; refine (za4 _ _ _ _ (by decide) (by decide)).mono ?_; rintro e' w' ⟨d0, d1, d2, d3, d4, d5, rfl, hc, nx, rfl⟩; have HC := Lib.hid hc; clear hc) | (go_at_call 200; refine (za0 _ _ _ _ _ _ _ _ _ _).mono ?_; rintro e' w' ⟨rfl, nx, rfl⟩))
 refine (zca _ _ _ _ _ (abL ((specialL.getD 10 []).drop 6)) w.heap.size (AbIs.deep _ _ _ _ _ _ _ _ _ _ _ _ _ _ _ _ (abL ((specialL.getD 10 []).drop 6)) [[6, 0, 0, 2]] (by rfl) (by rfl) (by rfl) (by rfl) (by rfl) (HR.out.1.grow grI) (Nat.le_trans (by first | (go_simp; done) | (go_simp; omega) | (simp only [Sl.b]; go_simp; omega)) HR.out.2)) (by first | (go_simp; done) | (go_simp; omega) | (simp only [Sl.b]; go_simp; omega)) (by decide +kernel)).mono ?_
 rintro e' w' ⟨k10, rfl, hcc, hc, nx, rfl⟩
 (try simp only [zad] at hc); (try simp only [zac] at hc)
 have h10 := Lib.hid (And.intro hcc hc)
 clear hc hcc
 go_wp2_with (first | (go_at_call 199; refine (zbl _ _ _ _ _).mono ?_; rintro e' w' ⟨rfl, nx, rfl⟩) | (go_at_call 243; refine (zc2 _ _ _).mono ?_; rintro e' w' ⟨rfl, nx, rfl⟩) | (go_at_call 198; refine (zbo _ _ _).mono ?_; rintro e' w' ⟨rfl, nx, rfl⟩) | (go_at_call 244; refine (zbg _ _ _ _ _).mono ?_; rintro e' w' ⟨s1, rfl, ⟨hR, hb⟩, nx, rfl⟩; (try simp only [zad] at hR); (try simp only [zac] at hR); (try simp only [zad] at hb); (try simp only [zac] at hb); have HR := Lib.hid (And.intro hR hb); clear hR hb) | (go_at_call 153; refine (za4 _ _ _ _ (by decide) (by decide)).mono ?_; rintro e' w' ⟨d0, d1, d2, d3, d4, d5, rfl, hc, nx, rfl⟩; have HC := Lib.hid hc; clear hc) | (go_at_call 200; refine (za0 _ _ _ _ _ _ _ _ _ _).mono ?_; rintro e' w' ⟨rfl, nx, rfl⟩))
 refine (zca _ _ _ _ _ (abL ((specialL.getD 11 []).drop 6)) w.heap.size (AbIs.plain _ _ _ _ _ _ _ _ _ _ _ _ _ _ _ (abL ((specialL.getD 11 []).drop 6)) (by rfl) (by rfl) (by rfl) (by rfl) (by rfl)) (by first | (go_simp; done) | (go_simp; omega) | (simp only [Sl.b]; go_simp; omega)) (by decide +kernel)).mono ?_
 rintro e' w' ⟨k11, rfl, hcc, hc, nx, rfl⟩
 (try simp only [zad] at hc); (try simp only [zac] at hc)
 have h11 := Lib.hid (And.intro hcc hc)
 clear hc hcc
 go_wp2_with fail
 go_ret
 refine ⟨⟨_, [k6, k7, k8, k9, k10, k11], rfl, ?_, ?_, by simp [h6.out.1, h7.out.1, h8.out.1, h9.out.1, h10.out.1, h11.out.1], (.cons (h6.out.2.grow grI) (.cons (h7.out.2.grow grI) (.cons (h8.out.2.grow grI) (.cons (h9.out.2.grow grI) (.cons (h10.out.2.grow grI) (.cons (h11.out.2.grow grI) (.nil _ _)))))))⟩, grI⟩
 · exact (by first | (go_simp; done) | (go_simp; omega) | (simp only [Sl.b]; go_simp; omega))
 · exact RowsV.many (by go_simp) (by go_simp) (by simp [CdV.size]) rfl
end Go.Proofs.YtgobdndjemicjaaGreatDoor
