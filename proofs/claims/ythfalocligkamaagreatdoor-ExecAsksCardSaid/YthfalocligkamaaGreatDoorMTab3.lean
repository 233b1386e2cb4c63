/- The cards without a colour: one ability each. -/
import Derived.Test.YthfalocligkamaaGreatDoorMSpells
import Derived.Test.YthfalocligkamaaGreatDoorMMade
namespace Go.Proofs.YthfalocligkamaaGreatDoor
open Go Go.RowKit
def CardsOk (w : World) (n : Nat) (l : List CdV) (m : List CardF) : Prop := l.length = m.length ∧ ∀ (i : Nat) (c : CdV) (d : CardF), l[i]? = some c → m[i]? = some d → CardIs w n c d
theorem CardsOk.nil (w : World) (n : Nat) : CardsOk w n [] [] := ⟨rfl, fun i c d h => by simp at h⟩
theorem CardsOk.cons {w : World} {n : Nat} {c : CdV} {d : CardF} {l : List CdV} {m : List CardF} (h : CardIs w n c d) (hl : CardsOk w n l m) : CardsOk w n (c :: l) (d :: m) := by
 refine ⟨by rw [List.length_cons, List.length_cons, hl.1], fun i c' d' h1 h2 => ?_⟩
 cases i with
 | zero =>
   simp only [List.getElem?_cons_zero, Option.some.injEq] at h1 h2
   subst h1; subst h2; exact h
 | succ i =>
   simp only [List.getElem?_cons_succ] at h1 h2
   exact hl.2 i c' d' h1 h2
theorem CardsOk.grow {w w' : World} {n : Nat} {l : List CdV} {m : List CardF} (h : CardsOk w n l m) (g : Grow w w') : CardsOk w' n l m := ⟨h.1, fun i c d h1 h2 => (h.2 i c d h1 h2).grow g⟩
theorem CardsOk.append {w : World} {n : Nat} {l l' : List CdV} {m m' : List CardF} (h : CardsOk w n l m) (h' : CardsOk w n l' m') : CardsOk w n (l ++ l') (m ++ m') := by
 refine ⟨by rw [List.length_append, List.length_append, h.1, h'.1], fun i c d h1 h2 => ?_⟩
 by_cases hi : i < l.length
 · rw [List.getElem?_append_left hi] at h1
   rw [List.getElem?_append_left (by rw [← h.1]; exact hi)] at h2
   exact h.2 i c d h1 h2
 · rw [List.getElem?_append_right (by omega)] at h1
   rw [List.getElem?_append_right (by rw [← h.1]; omega), ← h.1] at h2
   exact h'.2 _ c d h1 h2
@[go_sem] theorem zuw (w : World) (a : Int) (f : Bool) (c0 c1 c2 c3 c4 c5 : Int) (k o n c : Nat) : (za0 99 #[(0, .int .i64 a), (1, .int .i64 5), (2, .bool f), (3, .agg (cellsOf [c0, c1, c2, c3, c4, c5])), (7, .slice (some ⟨k, o, none⟩) n c)]).run Tryz.prog w = .ok (.value (.agg (CdV.arr ⟨a, 5, f, c0, c1, c2, c3, c4, c5, 0, 0, 0, .mk k o n c⟩))) w := by kernel_rfl
set_option maxRecDepth 100000 in
set_option maxHeartbeats 1000000 in
theorem zb3 (w : World) (kind price : Int) (fast : Bool) (a : AbV) (d : AbF) (n : Nat) (h : AbIs w n a d) (hn : n ≤ w.heap.size) (hp : zi3 (Int.toNat 5) 0 price = noCost.set 5 price) : Calls Tryz.prog 190 #[.int .i64 kind, .int .i64 price, .bool fast, .agg a.arr] w fun r w' => ∃ c : CdV, r = .returned (.agg c.arr) ∧ c.abs.c = c.abs.n ∧ CardIs w' n c ⟨kind, 5, fast, noCost.set 5 price, 0, 0, 0, [d]⟩ ∧ Grow w w' := by
 have H := Lib.hid h
 have HPr := Lib.hid hp
 clear h hp
 go_enter Tryz.func190, Tryz.ntmps190
 go_wp2_with fail
 go_region_law (first | (refine zak (by rfl) ?_; go_simp; go_at_call 152; refine (za1 _ _ _ _ (by decide) (by decide)).mono ?_; rintro e' w' ⟨d0, d1, d2, d3, d4, d5, rfl, hc, nx, rfl⟩; have HC := Lib.hid hc; clear hc))
 all_goals go_wp2_with fail
 all_goals refine bodyPost_ret (zba rfl _ _ _ rfl ?_) rfl ?_
 all_goals first | (go_simp; done) | skip
 all_goals (refine ⟨_, (by go_simp; rfl), rfl, ⟨rfl, rfl, rfl, HC.out.trans HPr.out, rfl, rfl, rfl, [a], ?_, .inr (by first | (go_simp; done) | (go_simp; omega) | (simp only [Sl.b]; go_simp; omega)), .cons (H.out.grow grI) .nil⟩, grI⟩; exact RowsV.one (x := a.arr) (by go_simp) (by go_simp) (by go_simp))
@[go_sem ↓] theorem z4z (ρ : Operand → Value) (dst : Option Tmp) (n : Nat) (parts : Array (Nat × Operand)) (ty : TypeId) (pos : String) (after : Array Edge) (guard : Option (Nat × Bool)) :
 execOp ρ { dst, op := .buildSlice 199 n parts, type := ty, pos, after, guard } = zdh 199 n (parts.map fun (i, x) => (i, ρ x)) := rfl
theorem znv (w : World) (a b c d e f : CdV) : (zdh 199 6 #[(0, .agg a.arr), (1, .agg b.arr), (2, .agg c.arr), (3, .agg d.arr), (4, .agg e.arr), (5, .agg f.arr)]).run Tryz.prog w = .ok (.value (.slice (some ⟨w.heap.size, 0, none⟩) 6 6)) (w.alloc (.cells (zd0 [a.arr, b.arr, c.arr, d.arr, e.arr, f.arr]) 99)) := by
 have h := zpu (P := Tryz.prog) w 199 99 6 13 Tryz.t99 Tryz.underlying199 (fun w => by kernel_rfl) (by kernel_rfl) (by kernel_rfl) (by decide) (by decide) (by decide) [a.arr, b.arr, c.arr, d.arr, e.arr, f.arr] rfl (by simp [CdV.size])
 exact h
attribute [go_sem] znv
def Six (w : World) (n : Nat) (r : Ending) (m : List CardF) : Prop := ∃ (b : Nat) (l : List CdV), r = .returned (.slice (some ⟨b, 0, none⟩) 6 6) ∧ n ≤ b ∧ RowsV w (.mk b 0 6 6) 13 (l.map CdV.arr) ∧ (∀ c, c ∈ l → c.abs.c = c.abs.n) ∧ CardsOk w n l m
set_option maxRecDepth 100000 in
set_option maxHeartbeats 4000000 in
theorem zi9 (w : World) : Calls Tryz.prog 179 #[] w fun r w' => Six w' w.heap.size r zf9 ∧ Grow w w' := by
 go_enter Tryz.func179, Tryz.ntmps179
 go_wp2_with (first | (go_at_call 167; refine (zbb _ _ _ _ _).mono ?_; rintro e' w' ⟨rfl, nx, rfl⟩) | (go_at_call 187; refine (zci _ _ _).mono ?_; rintro e' w' ⟨rfl, nx, rfl⟩) | (go_at_call 166; refine (zbe _ _ _).mono ?_; rintro e' w' ⟨rfl, nx, rfl⟩) | (go_at_call 188; refine (za9 _ _ _ _ _).mono ?_; rintro e' w' ⟨s1, rfl, ⟨hR, hb⟩, nx, rfl⟩; (try simp only [zae] at hR); (try simp only [zad] at hR); (try simp only [zae] at hb); (try simp only [zad] at hb); have HR := Lib.hid (And.intro hR hb); clear hR hb) | (go_at_call 152; refine (za1 _ _ _ _ (by decide) (by decide)).mono ?_; rintro e' w' ⟨d0, d1, d2, d3, d4, d5, rfl, hc, nx, rfl⟩; have HC := Lib.hid hc; clear hc) | (go_at_call 168; refine (zay _ _ _ _ _ _ _ _ _ _).mono ?_; rintro e' w' ⟨rfl, nx, rfl⟩))
 refine (zb3 _ _ _ _ _ (abL ((specialL.getD 0 []).drop 6)) w.heap.size (AbIs.plain _ _ _ _ _ _ _ _ _ _ _ _ _ _ _ (abL ((specialL.getD 0 []).drop 6)) (by rfl) (by rfl) (by rfl) (by rfl) (by rfl)) (by first | (go_simp; done) | (go_simp; omega) | (simp only [Sl.b]; go_simp; omega)) (by decide +kernel)).mono ?_
 rintro e' w' ⟨k0, rfl, hcc, hc, nx, rfl⟩
 (try simp only [zae] at hc); (try simp only [zad] at hc)
 have h0 := Lib.hid (And.intro hcc hc)
 clear hc hcc
 go_wp2_with (first | (go_at_call 167; refine (zbb _ _ _ _ _).mono ?_; rintro e' w' ⟨rfl, nx, rfl⟩) | (go_at_call 187; refine (zci _ _ _).mono ?_; rintro e' w' ⟨rfl, nx, rfl⟩) | (go_at_call 166; refine (zbe _ _ _).mono ?_; rintro e' w' ⟨rfl, nx, rfl⟩) | (go_at_call 188; refine (za9 _ _ _ _ _).mono ?_; rintro e' w' ⟨s1, rfl, ⟨hR, hb⟩, nx, rfl⟩; (try simp only [zae] at hR); (try simp only [zad] at hR); (try simp only [zae] at hb); (try simp only [zad] at hb); have HR := Lib.hid (And.intro hR hb); clear hR hb) | (go_at_call 152; refine (za1 _ _ _ _ (by decide) (by decide)).mono ?_; rintro e' w' ⟨d0, d1, d2, d3, d4, d5, rfl, hc, nx, rfl⟩; have HC := Lib.hid hc; clear hc) | (go_at_call 168; refine (zay _ _ _ _ _ _ _ _ _ _).mono ?_; rintro e' w' ⟨rfl, nx, rfl⟩))
 refine (zb3 _ _ _ _ _ (abL ((specialL.getD 1 []).drop 6)) w.heap.size (AbIs.plain _ _ _ _ _ _ _ _ _ _ _ _ _ _ _ (abL ((specialL.getD 1 []).drop 6)) (by rfl) (by rfl) (by rfl) (by rfl) (by rfl)) (by first | (go_simp; done) | (go_simp; omega) | (simp only [Sl.b]; go_simp; omega)) (by decide +kernel)).mono ?_
 rintro e' w' ⟨k1, rfl, hcc, hc, nx, rfl⟩
 (try simp only [zae] at hc); (try simp only [zad] at hc)
 have h1 := Lib.hid (And.intro hcc hc)
 clear hc hcc
 go_wp2_with (first | (go_at_call 167; refine (zbb _ _ _ _ _).mono ?_; rintro e' w' ⟨rfl, nx, rfl⟩) | (go_at_call 187; refine (zci _ _ _).mono ?_; rintro e' w' ⟨rfl, nx, rfl⟩) | (go_at_call 166; refine (zbe _ _ _).mono ?_; rintro e' w' ⟨rfl, nx, rfl⟩) | (go_at_call 188; refine (za9 _ _ _ _ _).mono ?_; rintro e' w' ⟨s1, rfl, ⟨hR, hb⟩, nx, rfl⟩; (try simp only [zae] at hR); (try simp only [zad] at hR); (try simp only [zae] at hb); (try simp only [zad] at hb); have HR := Lib.hid (And.intro hR hb); clear hR hb) | (go_at_call 152; refine (za1 _ _ _ _ (by decide) (by decide)).mono ?_; rintro e' w' ⟨d0, d1, d2, d3, d4, d5, rfl, hc, nx, rfl⟩; have HC := Lib.hid hc; clear hc) | (go_at_call 168; refine (zay _ _ _ _ _ _ _ _ _ _).mono ?_; rintro e' w' ⟨rfl, nx, rfl⟩))
 refine (zb3 _ _ _ _ _ (abL ((specialL.getD 2 []).drop 6)) w.heap.size (AbIs.plain _ _ _ _ _ _ _ _ _ _ _ _ _ _ _ (abL ((specialL.getD 2 []).drop 6)) (by rfl) (by rfl) (by rfl) (by rfl) (by rfl)) (by first | (go_simp; done) | (go_simp; omega) | (simp only [Sl.b]; go_simp; omega)) (by decide +kernel)).mono ?_
 rintro e' w' ⟨k2, rfl, hcc, hc, nx, rfl⟩
 (try simp only [zae] at hc); (try simp only [zad] at hc)
 have h2 := Lib.hid (And.intro hcc hc)
 clear hc hcc
 go_wp2_with (first | (go_at_call 167; refine (zbb _ _ _ _ _).mono ?_; rintro e' w' ⟨rfl, nx, rfl⟩) | (go_at_call 187; refine (zci _ _ _).mono ?_; rintro e' w' ⟨rfl, nx, rfl⟩) | (go_at_call 166; refine (zbe _ _ _).mono ?_; rintro e' w' ⟨rfl, nx, rfl⟩) | (go_at_call 188; refine (za9 _ _ _ _ _).mono ?_; rintro e' w' ⟨s1, rfl, ⟨hR, hb⟩, nx, rfl⟩; (try simp only [zae] at hR); (try simp only [zad] at hR); (try simp only [zae] at hb); (try simp only [zad] at hb); have HR := Lib.hid (And.intro hR hb); clear hR hb) | (go_at_call 152; refine (za1 _ _ _ _ (by decide) (by decide)).mono ?_; rintro e' w' ⟨d0, d1, d2, d3, d4, d5, rfl, hc, nx, rfl⟩; have HC := Lib.hid hc; clear hc) | (go_at_call 168; refine (zay _ _ _ _ _ _ _ _ _ _).mono ?_; rintro e' w' ⟨rfl, nx, rfl⟩))
 refine (zb3 _ _ _ _ _ (abL ((specialL.getD 3 []).drop 6)) w.heap.size (AbIs.plain _ _ _ _ _ _ _ _ _ _ _ _ _ _ _ (abL ((specialL.getD 3 []).drop 6)) (by rfl) (by rfl) (by rfl) (by rfl) (by rfl)) (by first | (go_simp; done) | (go_simp; omega) | (simp only [Sl.b]; go_simp; omega)) (by decide +kernel)).mono ?_
 rintro e' w' ⟨k3, rfl, hcc, hc, nx, rfl⟩
 (try simp only [zae] at hc); (try simp only [zad] at hc)
 have h3 := Lib.hid (And.intro hcc hc)
 clear hc hcc
 go_wp2_with (first | (go_at_call 167; refine (zbb _ _ _ _ _).mono ?_; rintro e' w' ⟨rfl, nx, rfl⟩) | (go_at_call 187; refine (zci _ _ _).mono ?_; rintro e' w' ⟨rfl, nx, rfl⟩) | (go_at_call 166; refine (zbe _ _ _).mono ?_; rintro e' w' ⟨rfl, nx, rfl⟩) | (go_at_call 188; refine (za9 _ _ _ _ _).mono ?_; rintro e' w' ⟨s1, rfl, ⟨hR, hb⟩, nx, rfl⟩; (try simp only [zae] at hR); (try simp only [zad] at hR); (try simp only [zae] at hb); (try simp only [zad] at hb); have HR := Lib.hid (And.intro hR hb); clear hR hb) | (go_at_call 152; refine (za1 _ _ _ _ (by decide) (by decide)).mono ?_; rintro e' w' ⟨d0, d1, d2, d3, d4, d5, rfl, hc, nx, rfl⟩; have HC := Lib.hid hc; clear hc) | (go_at_call 168; refine (zay _ _ _ _ _ _ _ _ _ _).mono ?_; rintro e' w' ⟨rfl, nx, rfl⟩))
 refine (zb3 _ _ _ _ _ (abL ((specialL.getD 4 []).drop 6)) w.heap.size (AbIs.plain _ _ _ _ _ _ _ _ _ _ _ _ _ _ _ (abL ((specialL.getD 4 []).drop 6)) (by rfl) (by rfl) (by rfl) (by rfl) (by rfl)) (by first | (go_simp; done) | (go_simp; omega) | (simp only [Sl.b]; go_simp; omega)) (by decide +kernel)).mono ?_
 rintro e' w' ⟨k4, rfl, hcc, hc, nx, rfl⟩
 (try simp only [zae] at hc); (try simp only [zad] at hc)
 have h4 := Lib.hid (And.intro hcc hc)
 clear hc hcc
 go_wp2_with (first | (go_at_call 167; refine (zbb _ _ _ _ _).mono ?_; rintro e' w' ⟨rfl, nx, rfl⟩) | (go_at_call 187; refine (zci _ _ _).mono ?_; rintro e' w' ⟨rfl, nx, rfl⟩) | (go_at_call 166; refine (zbe _ _ _).mono ?_; rintro e' w' ⟨rfl, nx, rfl⟩) | (go_at_call 188; refine (za9 _ _ _ _ _).mono ?_; rintro e' w' ⟨s1, rfl, ⟨hR, hb⟩, nx, rfl⟩; (try simp only [zae] at hR); (try simp only [zad] at hR); (try simp only [zae] at hb); (try simp only [zad] at hb); have HR := Lib.hid (And.intro hR hb); clear hR hb) | (go_at_call 152; refine (za1 _ _ _ _ (by decide) (by decide)).mono ?_; rintro e' w' ⟨d0, d1, d2, d3, d4, d5, rfl, hc, nx, rfl⟩; have HC := Lib.hid hc; clear hc) | (go_at_call 168; refine (zay _ _ _ _ _ _ _ _ _ _).mono ?_; rintro e' w' ⟨rfl, nx, rfl⟩))
 refine (zb3 _ _ _ _ _ (abL ((specialL.getD 5 []).drop 6)) w.heap.size (AbIs.plain _ _ _ _ _ _ _ _ _ _ _ _ _ _ _ (abL ((specialL.getD 5 []).drop 6)) (by rfl) (by rfl) (by rfl) (by rfl) (by rfl)) (by first | (go_simp; done) | (go_simp; omega) | (simp only [Sl.b]; go_simp; omega)) (by decide +kernel)).mono ?_
 rintro e' w' ⟨k5, rfl, hcc, hc, nx, rfl⟩
 (try simp only [zae] at hc); (try simp only [zad] at hc)
 have h5 := Lib.hid (And.intro hcc hc)
 clear hc hcc
 go_wp2_with fail
 go_ret
 refine ⟨⟨_, [k0, k1, k2, k3, k4, k5], rfl, ?_, ?_, by simp [h0.out.1, h1.out.1, h2.out.1, h3.out.1, h4.out.1, h5.out.1], (.cons (h0.out.2.grow grI) (.cons (h1.out.2.grow grI) (.cons (h2.out.2.grow grI) (.cons (h3.out.2.grow grI) (.cons (h4.out.2.grow grI) (.cons (h5.out.2.grow grI) (.nil _ _)))))))⟩, grI⟩
 · exact (by first | (go_simp; done) | (go_simp; omega) | (simp only [Sl.b]; go_simp; omega))
 · exact RowsV.many (by go_simp) (by go_simp) (by simp [CdV.size]) rfl
set_option maxRecDepth 100000 in
set_option maxHeartbeats 4000000 in
theorem zlw (w : World) : Calls Tryz.prog 180 #[] w fun r w' => Six w' w.heap.size r zka ∧ Grow w w' := by
 go_enter Tryz.func180, Tryz.ntmps180
 go_wp2_with (first | (go_at_call 167; refine (zbb _ _ _ _ _).mono ?_; rintro e' w' ⟨rfl, nx, rfl⟩) | (go_at_call 187; refine (zci _ _ _).mono ?_; rintro e' w' ⟨rfl, nx, rfl⟩) | (go_at_call 166; refine (zbe _ _ _).mono ?_; rintro e' w' ⟨rfl, nx, rfl⟩) | (go_at_call 188; refine (za9 _ _ _ _ _).mono ?_; rintro e' w' ⟨s1, rfl, ⟨hR, hb⟩, nx, rfl⟩; (try simp only [zae] at hR); (try simp only [zad] at hR); (try simp only [zae] at hb); (try simp only [zad] at hb); have HR := Lib.hid (And.intro hR hb); clear hR hb) | (go_at_call 152; refine (za1 _ _ _ _ (by decide) (by decide)).mono ?_; rintro e' w' ⟨d0, d1, d2, d3, d4, d5, rfl, hc, nx, rfl⟩; have HC := Lib.hid hc; clear hc) | (go_at_call 168; refine (zay _ _ _ _ _ _ _ _ _ _).mono ?_; rintro e' w' ⟨rfl, nx, rfl⟩))
 refine (zb3 _ _ _ _ _ (abL ((specialL.getD 6 []).drop 6)) w.heap.size (AbIs.deep _ _ _ _ _ _ _ _ _ _ _ _ _ _ _ _ (abL ((specialL.getD 6 []).drop 6)) [[7, 0, 0, 2]] (by rfl) (by rfl) (by rfl) (by rfl) (by rfl) (HR.out.1.grow grI) (Nat.le_trans (by first | (go_simp; done) | (go_simp; omega) | (simp only [Sl.b]; go_simp; omega)) HR.out.2)) (by first | (go_simp; done) | (go_simp; omega) | (simp only [Sl.b]; go_simp; omega)) (by decide +kernel)).mono ?_
 rintro e' w' ⟨k6, rfl, hcc, hc, nx, rfl⟩
 (try simp only [zae] at hc); (try simp only [zad] at hc)
 have h6 := Lib.hid (And.intro hcc hc)
 clear hc hcc
 go_wp2_with (first | (go_at_call 167; refine (zbb _ _ _ _ _).mono ?_; rintro e' w' ⟨rfl, nx, rfl⟩) | (go_at_call 187; refine (zci _ _ _).mono ?_; rintro e' w' ⟨rfl, nx, rfl⟩) | (go_at_call 166; refine (zbe _ _ _).mono ?_; rintro e' w' ⟨rfl, nx, rfl⟩) | (go_at_call 188; refine (za9 _ _ _ _ _).mono ?_; rintro e' w' ⟨s1, rfl, ⟨hR, hb⟩, nx, rfl⟩; (try simp only [zae] at hR); (try simp only [zad] at hR); (try simp only [zae] at hb); (try simp only [zad] at hb); have HR := Lib.hid (And.intro hR hb); clear hR hb) | (go_at_call 152; refine (za1 _ _ _ _ (by decide) (by decide)).mono ?_; rintro e' w' ⟨d0, d1, d2, d3, d4, d5, rfl, hc, nx, rfl⟩; have HC := Lib.hid hc; clear hc) | (go_at_call 168; refine (zay _ _ _ _ _ _ _ _ _ _).mono ?_; rintro e' w' ⟨rfl, nx, rfl⟩))
 refine (zb3 _ _ _ _ _ (abL ((specialL.getD 7 []).drop 6)) w.heap.size (AbIs.plain _ _ _ _ _ _ _ _ _ _ _ _ _ _ _ (abL ((specialL.getD 7 []).drop 6)) (by rfl) (by rfl) (by rfl) (by rfl) (by rfl)) (by first | (go_simp; done) | (go_simp; omega) | (simp only [Sl.b]; go_simp; omega)) (by decide +kernel)).mono ?_
 rintro e' w' ⟨k7, rfl, hcc, hc, nx, rfl⟩
 (try simp only [zae] at hc); (try simp only [zad] at hc)
 have h7 := Lib.hid (And.intro hcc hc)
 clear hc hcc
 go_wp2_with (first | (go_at_call 167; refine (zbb _ _ _ _ _).mono ?_; rintro e' w' ⟨rfl, nx, rfl⟩) | (go_at_call 187; refine (zci _ _ _).mono ?_; rintro e' w' ⟨rfl, nx, rfl⟩) | (go_at_call 166; refine (zbe _ _ _).mono ?_; rintro e' w' ⟨rfl, nx, rfl⟩) | (go_at_call 188; refine (za9 _ _ _ _ _).mono ?_; rintro e' w' ⟨s1, rfl, ⟨hR, hb⟩, nx, rfl⟩; (try simp only [zae] at hR); (try simp only [zad] at hR); (try simp only [zae] at hb); (try simp only [zad] at hb); have HR := Lib.hid (And.intro hR hb); clear hR hb) | (go_at_call 152; refine (za1 _ _ _ _ (by decide) (by decide)).mono ?_; rintro e' w' ⟨d0, d1, d2, d3, d4, d5, rfl, hc, nx, rfl⟩; have HC := Lib.hid hc; clear hc) | (go_at_call 168; refine (zay _ _ _ _ _ _ _ _ _ _).mono ?_; rintro e' w' ⟨rfl, nx, rfl⟩))
 refine (zb3 _ _ _ _ _ (abL ((specialL.getD 8 []).drop 6)) w.heap.size (AbIs.plain _ _ _ _ _ _ _ _ _ _ _ _ _ _ _ (abL ((specialL.getD 8 []).drop 6)) (by rfl) (HC.out.trans zfw) (by rfl) (by rfl) (by rfl)) (by first | (go_simp; done) | (go_simp; omega) | (simp only [Sl.b]; go_simp; omega)) (by decide +kernel)).mono ?_
 rintro e' w' ⟨k8, rfl, hcc, hc, nx, rfl⟩
 (try simp only [zae] at hc); (try simp only [zad] at hc)
 have h8 := Lib.hid (And.intro hcc hc)
 clear hc hcc
 go_wp2_with (first | (go_at_call 167; refine (zbb _ _ _ _ _).mono ?_; rintro e' w' ⟨rfl, nx, rfl⟩) | (go_at_call 187; refine (zci _ _ _).mono ?_; rintro e' w' ⟨rfl, nx, rfl⟩) | (go_at_call 166; refine (zbe _ _ _).mono ?_; rintro e' w' ⟨rfl, nx, rfl⟩) | (go_at_call 188; refine (za9 _ _ _ _ _).mono ?_; rintro e' w' ⟨s1, rfl, ⟨hR, hb⟩, nx, rfl⟩; (try simp only [zae] at hR); (try simp only [zad] at hR); (try simp only [zae] at hb); (try simp only [zad] at hb); have HR := Lib.hid (And.intro hR hb); clear hR hb) | (go_at_call 152; refine (za1 _ _ _ _ (by decide) (by decide)).mono ?_; rintro e' w' ⟨d0, d1, d2, d3, d4, d5, rfl, hc, nx, rfl⟩; have HC := Lib.hid hc; clear hc) | (go_at_call 168; refine (zay _ _ _ _ _ _ _ _ _ _).mono ?_; rintro e' w' ⟨rfl, nx, rfl⟩))
 refine (zb3 _ _ _ _ _ (abL ((specialL.getD 9 []).drop 6)) w.heap.size (AbIs.plain _ _ _ _ _ _ _ _ _ _ _ _ _ _ _ (abL ((specialL.getD 9 []).drop 6)) (by rfl) (by rfl) (by rfl) (by rfl) (by rfl)) (by first | (go_simp; done) | (go_simp; omega) | (simp only [Sl.b]; go_simp; omega)) (by decide +kernel)).mono ?_
 rintro e' w' ⟨k9, rfl, hcc, hc, nx, rfl⟩
 (try simp only [zae] at hc); (try simp only [zad] at hc)
 have h9 := Lib.hid (And.intro hcc hc)
 clear hc hcc
 go_wp2_with (first | (go_at_call 167; refine (zbb _ _ _ _ _).mono ?_; rintro e' w' ⟨rfl, nx, rfl⟩) | (go_at_call 187; refine (zci _ _ _).mono ?_; rintro e' w' ⟨rfl, nx, rfl⟩) | (go_at_call 166; refine (zbe _ _ _).mono ?_; rintro e' w' ⟨rfl, nx, rfl⟩) | (go_at_call 188; refine (za9 _ _ _ _ _).mono ?_; rintro e' w' ⟨s1, rfl, ⟨hR, hb⟩, nx, rfl⟩; (try simp only [zae] at hR); (try simp only [zad] at hR); (try simp only [zae] at hb); (try simp only [zad] at hb); have HR := Lib.hid (And.intro hR hb); clear hR hb) | (go_at_call 152; refine (za1 _ _ _ _ (by decide) (by decide)).mono ?_; rintro e' w' ⟨d0, d1, d2, d3, d4, d5, rfl, hc, nx, rfl⟩; have HC := Lib.hid hc; clear hc) | (go_at_call 168; refine (zay _ _ _ _ _ _ _ _ _ _).mono ?_; rintro e' w' ⟨rfl, nx, rfl⟩))
 refine (zb3 _ _ _ _ _ (abL ((specialL.getD 10 []).drop 6)) w.heap.size (AbIs.deep _ _ _ _ _ _ _ _ _ _ _ _ _ _ _ _ (abL ((specialL.getD 10 []).drop 6)) [[6, 0, 0, 2]] (by rfl) (by rfl) (by rfl) (by rfl) (by rfl) (HR.out.1.grow grI) (Nat.le_trans (by first | (go_simp; done) | (go_simp; omega) | (simp only [Sl.b]; go_simp; omega)) HR.out.2)) (by first | (go_simp; done) | (go_simp; omega) | (simp only [Sl.b]; go_simp; omega)) (by decide +kernel)).mono ?_
 rintro e' w' ⟨k10, rfl, hcc, hc, nx, rfl⟩
 (try simp only [zae] at hc); (try simp only [zad] at hc)
 have h10 := Lib.hid (And.intro hcc hc)
 clear hc hcc
 go_wp2_with (first | (go_at_call 167; refine (zbb _ _ _ _ _).mono ?_; rintro e' w' ⟨rfl, nx, rfl⟩) | (go_at_call 187; refine (zci _ _ _).mono ?_; rintro e' w' ⟨rfl, nx, rfl⟩) | (go_at_call 166; refine (zbe _ _ _).mono ?_; rintro e' w' ⟨rfl, nx, rfl⟩) | (go_at_call 188; refine (za9 _ _ _ _ _).mono ?_; rintro e' w' ⟨s1, rfl, ⟨hR, hb⟩, nx, rfl⟩; (try simp only [zae] at hR); (try simp only [zad] at hR); (try simp only [zae] at hb); (try simp only [zad] at hb); have HR := Lib.hid (And.intro hR hb); clear hR hb) | (go_at_call 152; refine (za1 _ _ _ _ (by decide) (by decide)).mono ?_; rintro e' w' ⟨d0, d1, d2, d3, d4, d5, rfl, hc, nx, rfl⟩; have HC := Lib.hid hc; clear hc) | (go_at_call 168; refine (zay _ _ _ _ _ _ _ _ _ _).mono ?_; rintro e' w' ⟨rfl, nx, rfl⟩))
 refine (zb3 _ _ _ _ _ (abL ((specialL.getD 11 []).drop 6)) w.heap.size (AbIs.plain _ _ _ _ _ _ _ _ _ _ _ _ _ _ _ (abL ((specialL.getD 11 []).drop 6)) (by rfl) (by rfl) (by rfl) (by rfl) (by rfl)) (by first | (go_simp; done) | (go_simp; omega) | (simp only [Sl.b]; go_simp; omega)) (by decide +kernel)).mono ?_
 rintro e' w' ⟨k11, rfl, hcc, hc, nx, rfl⟩
 (try simp only [zae] at hc); (try simp only [zad] at hc)
 have h11 := Lib.hid (And.intro hcc hc)
 clear hc hcc
 go_wp2_with fail
 go_ret
 refine ⟨⟨_, [k6, k7, k8, k9, k10, k11], rfl, ?_, ?_, by simp [h6.out.1, h7.out.1, h8.out.1, h9.out.1, h10.out.1, h11.out.1], (.cons (h6.out.2.grow grI) (.cons (h7.out.2.grow grI) (.cons (h8.out.2.grow grI) (.cons (h9.out.2.grow grI) (.cons (h10.out.2.grow grI) (.cons (h11.out.2.grow grI) (.nil _ _)))))))⟩, grI⟩
 · exact (by first | (go_simp; done) | (go_simp; omega) | (simp only [Sl.b]; go_simp; omega))
 · exact RowsV.many (by go_simp) (by go_simp) (by simp [CdV.size]) rfl
end Go.Proofs.YthfalocligkamaaGreatDoor
namespace Go.Proofs.YthfalocligkamaaGreatDoor
open Go Go.RowKit
@[go_sem] theorem CdV.get0 (c : CdV) : c.arr[0]? = some (I c.kind) := rfl
@[go_sem] theorem CdV.get9 (c : CdV) : c.arr[9]? = some (I c.pw) := rfl
@[go_sem] theorem CdV.get10 (c : CdV) : c.arr[10]? = some (I c.tf) := rfl
@[go_sem] theorem CdV.get11 (c : CdV) : c.arr[11]? = some (I c.says) := rfl
@[go_sem] theorem CdV.get12 (c : CdV) : c.arr[12]? = some c.abs.val := rfl
@[go_sem] theorem CdV.get0' (c : CdV) (h : 0 < c.arr.size) : c.arr[0]'h = I c.kind := rfl
@[go_sem] theorem CdV.get9' (c : CdV) (h : 9 < c.arr.size) : c.arr[9]'h = I c.pw := rfl
@[go_sem] theorem CdV.get10' (c : CdV) (h : 10 < c.arr.size) : c.arr[10]'h = I c.tf := rfl
@[go_sem] theorem CdV.get11' (c : CdV) (h : 11 < c.arr.size) : c.arr[11]'h = I c.says := rfl
@[go_sem] theorem CdV.get12' (c : CdV) (h : 12 < c.arr.size) : c.arr[12]'h = c.abs.val := rfl
@[go_sem] theorem CdV.set9 (c : CdV) (x : Int) : c.arr.setIfInBounds 9 (.int .i64 x) = CdV.arr { c with pw := x } := rfl
@[go_sem] theorem CdV.set10 (c : CdV) (x : Int) : c.arr.setIfInBounds 10 (.int .i64 x) = CdV.arr { c with tf := x } := rfl
@[go_sem] theorem CdV.set11 (c : CdV) (x : Int) : c.arr.setIfInBounds 11 (.int .i64 x) = CdV.arr { c with says := x } := rfl
@[go_sem] theorem CdV.set12 (c : CdV) (s : Sl) : c.arr.setIfInBounds 12 s.val = CdV.arr { c with abs := s } := rfl
@[go_sem] theorem CdV.set12' (c : CdV) (b o n k : Nat) : c.arr.setIfInBounds 12 (.slice (some ⟨b, o, none⟩) n k) = CdV.arr { c with abs := .mk b o n k } := rfl
@[go_sem] theorem z2c (w : World) (s : Sl) (q : IntKind) (i : Int) (h0 : 0 ≤ i) (h1 : i < s.n) : (Instr.indexAt 199 s.val (.int q i)).run Tryz.prog w = .ok (.pointer (some ⟨s.b, s.o + i.toNat * 13, none⟩)) w :=
 zbh w Tryz.underlying199 (fun w => (by kernel_rfl : (sizeOf 99).run Tryz.prog w = .ok 13 w)) s q i h0 h1
@[go_sem ↓] theorem z97 (ρ : Operand → Value) (dst : Option Tmp) (x y : Operand) (ty : TypeId) (pos : String) (after : Array Edge) (guard : Option (Nat × Bool)) :
 execOp ρ { dst, op := .store 97 x y, type := ty, pos, after, guard } = zaz 97 (ρ x) (ρ y) := rfl
@[go_sem] theorem zz1 (w : World) (b o : Nat) (s : Sl) (h : (w.cell? ⟨b, o, none⟩).isSome = true) (hf : w.frozen? ⟨b, o, none⟩ = false) : (zaz 97 (.pointer (some ⟨b, o, none⟩)) s.val).run Tryz.prog w = .ok .skip (w.setCell ⟨b, o, none⟩ s.val) :=
 zcf w b o 97 s (by kernel_rfl) h hf
def zs2 : CardF := ⟨0, 0, false, [], 0, 0, 0, []⟩
theorem CardsOk.low {w : World} {k n : Nat} {l : List CdV} {m : List CardF} (h : CardsOk w n l m) (hk : k ≤ n) : CardsOk w k l m := ⟨h.1, fun i c d h1 h2 => (h.2 i c d h1 h2).low hk⟩
theorem zp1 (i : Nat) (hi : i < 12) (h8 : i ≠ 8) (h11 : i ≠ 11) : zdw i = (zf9 ++ zka).getD i zs2 := by
 have : i = 0 ∨ i = 1 ∨ i = 2 ∨ i = 3 ∨ i = 4 ∨ i = 5 ∨ i = 6 ∨ i = 7 ∨ i = 9 ∨ i = 10 := by omega
 rcases this with rfl | rfl | rfl | rfl | rfl | rfl | rfl | rfl | rfl | rfl <;> rfl
theorem zgn {W : World} {y : Ext} {n i : Nat} (hi : i < 12) {l1 l2 : List CdV} {s2 : Sl} (h1 : ∀ c, c ∈ l1 → c.abs.c = c.abs.n) (h2 : ∀ c, c ∈ l2 → c.abs.c = c.abs.n) (o1 : CardsOk W n l1 zf9) (o2 : CardsOk W n l2 zka)
 (c1 : Cells (W.plus y) s2 13 (zda (l1.map CdV.arr) ++ zda (l2.map CdV.arr))) :
 ∃ c : CdV, s2.b < (W.plus y).heap.size ∧ s2.o + i * 13 + 13 ≤ ((W.plus y).blk s2.b).size ∧ sub ((W.plus y).blk s2.b) (s2.o + i * 13) 13 = c.arr ∧ c.abs.c = c.abs.n ∧ CardIs W n c ((zf9 ++ zka).getD i zs2) ∧ True := by
 have hR := Cells.rowsV (l := (l1 ++ l2).map CdV.arr) (by rw [List.map_append, zeg]; exact c1) (by decide) (fun x hx => by obtain ⟨c, _, rfl⟩ := List.mem_map.1 hx; exact CdV.size c)
 have hO := o1.append o2
 have hl : (l1 ++ l2).length = 12 := hO.1
 have hc : (l1 ++ l2)[i]? = some (l1 ++ l2)[i] := List.getElem?_eq_getElem (by omega)
 obtain ⟨a1, a2, a3⟩ := hR.at (by decide) (i := i) (x := (l1 ++ l2)[i].arr) (by rw [List.getElem?_map, hc]; rfl)
 refine ⟨(l1 ++ l2)[i], a1, a2, a3, ?_, ?_, trivial⟩
 · rcases List.mem_append.1 (List.getElem_mem (by omega : i < (l1 ++ l2).length)) with h | h
   · exact h1 _ h
   · exact h2 _ h
 · have hm : (zf9 ++ zka)[i]? = some ((zf9 ++ zka).getD i zs2) := by
    have : i < (zf9 ++ zka).length := hi
    rw [List.getD, List.getElem?_eq_getElem this]; rfl
   exact hO.2 i _ _ hc hm
set_option maxRecDepth 100000 in
set_option maxHeartbeats 2000000 in
theorem zp2 (w : World) (i : Nat) (hi : i < 12) : Calls Tryz.prog 155 #[.int .i64 (i : Int)] w fun r w' => ∃ c : CdV, r = .returned (.agg c.arr) ∧ CardIs w' w.heap.size c (zdw i) ∧ Grow w w' := by
 have hi' : (i : Int) < 12 := by omega
 by_cases h8 : i = 8
 · have t8 : ((i : Int) == 8) = true := by simp; omega
   have HN : Hid (zdw i = ⟨1, 5, false, [0, 0, 0, 0, 0, 2], 1, 1, 0, [abL ((specialL.getD 8 []).drop 6), zlp 2 5]⟩ ∧ (zf9 ++ zka).getD i zs2 = ⟨1, 5, false, [0, 0, 0, 0, 0, 2], 0, 0, 0, [abL ((specialL.getD 8 []).drop 6)]⟩) := by
    subst h8; exact ⟨rfl, rfl⟩
   clear h8
   go_enter Tryz.func155, Tryz.ntmps155
   go_wp2_with (first | (go_at_call 179; refine (zi9 _).mono ?_; rintro e' w' ⟨⟨b1, l1, rfl, hn1, hr1, hc1, ho1⟩, nx, rfl⟩; have H1 := Lib.hid (And.intro hr1 (And.intro hc1 ho1)); clear hr1 hc1 ho1 hn1) | (go_at_call 180; refine (zlw _).mono ?_; rintro e' w' ⟨⟨b2, l2, rfl, hn2, hr2, hc2, ho2⟩, nx, rfl⟩; (try simp only [zae] at hr2); (try simp only [zad] at hr2); (try simp only [zae] at ho2); (try simp only [zad] at ho2); have H2 := Lib.hid (And.intro hr2 (And.intro hc2 ho2)); clear hr2 hc2 ho2 hn2) | (at_builtin; refine zgq rfl _ _ 199 rfl 99 Tryz.t99 (.agg (CdV.arr ⟨0, 0, false, 0, 0, 0, 0, 0, 0, 0, 0, 0, .nil⟩)) 13 120 Tryz.underlying199 (by kernel_rfl) (by kernel_rfl) (by kernel_rfl) (by kernel_rfl) (by omega) rfl (.mk b1 0 6 6) (.mk b2 0 6 6) (zda (l1.map CdV.arr)) (zda (l2.map CdV.arr)) rfl rfl (H1.out.1.grow grI).cells (by show 6 < 12; decide) (H2.out.1.grow grI).cells (zdb (by simp [CdV.one])) (by show 12 ≤ 4194304; decide) ?_; intro s2 y c1 c2 c3; obtain ⟨c, q1, q2, q3, q4, q5, q6⟩ := zgn hi H1.out.2.1 H2.out.2.1 (H1.out.2.2.grow grI) (H2.out.2.2.low (by first | (go_simp; done) | (go_simp; omega) | (simp only [Sl.b]; go_simp; omega))) c1; (try simp only [zae] at q1); (try simp only [zad] at q1); (try simp only [zae] at q2); (try simp only [zad] at q2); (try simp only [zae] at q3); (try simp only [zad] at q3); (rw [zac] at q1); (rw [ze0, if_neg (by simp only [zac, zaa] at c3 ⊢; omega)] at q2 q3); have hs2 : s2.n = 12 := c2; have q0 : w.heap.size + 1 ≤ s2.b := (by simp only [zac, zaa] at c3; omega); (simp only [zaa] at q1); have Q := Lib.hid (And.intro q4 (And.intro q5 q6)); clear c1 c2 c3 q4 q5 q6))
   obtain ⟨l, hl1, hl0, hl2⟩ := Q.out.2.1.abs
   rw [HN.out.2] at hl2
   have HL := Lib.hid (And.intro hl1 (And.intro hl0 hl2))
   have HCN : Hid (c.abs.n = 1) := by
    have h1 := hl1.len
    rw [List.length_map] at h1
    cases hl2 with
    | cons _ h => cases h; exact h1
   clear hl1 hl0 hl2
   go_region_law (first | (refine zak (by rfl) ?_; go_simp; go_at_call 165; refine (zl1 _ _ _).mono ?_; rintro e' w' ⟨rfl, nz, rfl⟩) | (refine zob (by rfl) _ _ 97 rfl 152 Tryz.t152 (.agg (AbV.arr ⟨0, 0, 0, 0, 0, 0, 0, false, 0, ⟨0, 0, 0, 0, .nil⟩⟩)) 14 128 Tryz.underlying97 (by kernel_rfl) (by kernel_rfl) (by kernel_rfl) (by kernel_rfl) (by omega) rfl c.abs (.mk _ 0 1 1) (zda (l.map AbV.arr)) (zda [AbV.arr ⟨6, 0, 0, 0, 0, 0, 0, true, 0, ⟨15, 2, 5, 0, .nil⟩⟩]) rfl rfl (HL.out.1.grow grI).cells (by have := Q.out.1; show c.abs.c < c.abs.n + 1; omega) (RowsV.one (x := AbV.arr _) (by go_simp) (by go_simp) (by go_simp)).cells (zdb (by simp [AbV.one])) (by have := HCN.out; show c.abs.n + 1 ≤ 4194304; omega) ?_; intro s3 y3 c1 c2 c3; have C := Lib.hid (And.intro c1 (And.intro c2 c3)); clear c1 c2 c3))
   all_goals go_wp2_with fail
   all_goals refine bodyPost_ret (zba rfl _ _ _ rfl ?_) rfl ?_
   all_goals first | (go_simp; done) | skip
   all_goals
    obtain ⟨c1, c2, c3⟩ := C.out
    obtain ⟨hl1, hl0, hl2⟩ := HL.out
    have hq := Q.out.2.1
    rw [HN.out.2] at hq
    rw [HN.out.1]
    have hr := Cells.rowsV (l := l.map AbV.arr ++ [AbV.arr ⟨6, 0, 0, 0, 0, 0, 0, true, 0, ⟨15, 2, 5, 0, .nil⟩⟩]) (by rw [zeg]; exact c1) (by decide) (by
     intro x hx
     rcases List.mem_append.1 hx with h | h
     · obtain ⟨a, _, rfl⟩ := List.mem_map.1 h; exact AbV.size a
     · rw [List.mem_singleton.1 h]; exact AbV.size _)
    clear c1
    simp only [zac, zaa] at c3
    refine ⟨{ c with pw := 1, tf := 1, abs := s3 }, by go_simp, ⟨hq.kind, hq.col, hq.fast, hq.cost, rfl, rfl, hq.says, l ++ [⟨6, 0, 0, 0, 0, 0, 0, true, 0, ⟨15, 2, 5, 0, .nil⟩⟩], ?_, .inr ?_, ?_⟩, grI⟩
    · rw [List.map_append]
      exact ((hr.off (Off.plus (Off.alloc (Off.plus (Off.base _ _ _ _ rfl) _) _) _) (by simp only [zac, zaa]; omega)).off (b := w.heap.size) (Off.plus (Off.alloc (Off.plus (Off.alloc (Off.plus (Off.base w _ _ _ rfl) _) _) _) _) _) (by omega)).grow grI
    · show w.heap.size ≤ s3.b
      omega
    · refine AbsIs.append (m := [abL ((specialL.getD 8 []).drop 6)]) ?_ (.cons ⟨rfl, rfl, rfl, rfl, EfIs.plain _ _ _ _ _ _⟩ .nil)
      exact (((hl2.off (b := w.heap.size) (Off.plus (Off.base w _ _ _ rfl) _) (by first | (go_simp; done) | (go_simp; omega) | (simp only [Sl.b]; go_simp; omega))).less (by first | (go_simp; done) | (go_simp; omega) | (simp only [Sl.b]; go_simp; omega))).grow grI)
 · by_cases h11 : i = 11
   · have t8 : ((i : Int) == 8) = false := by simp; omega
     have t11 : ((i : Int) == 11) = true := by simp; omega
     have HN : Hid (zdw i = ⟨1, 5, true, [0, 0, 0, 0, 0, 3], 2, 3, 5, [abL ((specialL.getD 11 []).drop 6)]⟩ ∧ (zf9 ++ zka).getD i zs2 = ⟨1, 5, true, [0, 0, 0, 0, 0, 3], 0, 0, 0, [abL ((specialL.getD 11 []).drop 6)]⟩) := by
      subst h11; exact ⟨rfl, rfl⟩
     clear h11 h8
     go_enter Tryz.func155, Tryz.ntmps155
     go_wp2_with (first | (go_at_call 179; refine (zi9 _).mono ?_; rintro e' w' ⟨⟨b1, l1, rfl, hn1, hr1, hc1, ho1⟩, nx, rfl⟩; have H1 := Lib.hid (And.intro hr1 (And.intro hc1 ho1)); clear hr1 hc1 ho1 hn1) | (go_at_call 180; refine (zlw _).mono ?_; rintro e' w' ⟨⟨b2, l2, rfl, hn2, hr2, hc2, ho2⟩, nx, rfl⟩; (try simp only [zae] at hr2); (try simp only [zad] at hr2); (try simp only [zae] at ho2); (try simp only [zad] at ho2); have H2 := Lib.hid (And.intro hr2 (And.intro hc2 ho2)); clear hr2 hc2 ho2 hn2) | (at_builtin; refine zgq rfl _ _ 199 rfl 99 Tryz.t99 (.agg (CdV.arr ⟨0, 0, false, 0, 0, 0, 0, 0, 0, 0, 0, 0, .nil⟩)) 13 120 Tryz.underlying199 (by kernel_rfl) (by kernel_rfl) (by kernel_rfl) (by kernel_rfl) (by omega) rfl (.mk b1 0 6 6) (.mk b2 0 6 6) (zda (l1.map CdV.arr)) (zda (l2.map CdV.arr)) rfl rfl (H1.out.1.grow grI).cells (by show 6 < 12; decide) (H2.out.1.grow grI).cells (zdb (by simp [CdV.one])) (by show 12 ≤ 4194304; decide) ?_; intro s2 y c1 c2 c3; obtain ⟨c, q1, q2, q3, q4, q5, q6⟩ := zgn hi H1.out.2.1 H2.out.2.1 (H1.out.2.2.grow grI) (H2.out.2.2.low (by first | (go_simp; done) | (go_simp; omega) | (simp only [Sl.b]; go_simp; omega))) c1; (try simp only [zae] at q1); (try simp only [zad] at q1); (try simp only [zae] at q2); (try simp only [zad] at q2); (try simp only [zae] at q3); (try simp only [zad] at q3); (rw [zac] at q1); (rw [ze0, if_neg (by simp only [zac, zaa] at c3 ⊢; omega)] at q2 q3); have hs2 : s2.n = 12 := c2; have q0 : w.heap.size + 1 ≤ s2.b := (by simp only [zac, zaa] at c3; omega); (simp only [zaa] at q1); have Q := Lib.hid (And.intro q4 (And.intro q5 q6)); clear c1 c2 c3 q4 q5 q6))
     refine bodyPost_ret (zba rfl _ _ _ rfl ?_) rfl ?_
     · go_simp
     · refine ⟨{ c with pw := 2, tf := 3, says := 5 }, by go_simp, ?_, grI⟩
       have hq := Q.out.2.1
       rw [HN.out.2] at hq
       rw [HN.out.1]
       refine CardIs.tune (d := ⟨1, 5, true, [0, 0, 0, 0, 0, 3], 0, 0, 0, [abL ((specialL.getD 11 []).drop 6)]⟩) (c := c) ?_ 2 3 5
       exact hq.to (b := w.heap.size) grI (Off.plus (Off.base w _ _ _ rfl) _) (by first | (go_simp; done) | (go_simp; omega) | (simp only [Sl.b]; go_simp; omega)) (by first | (go_simp; done) | (go_simp; omega) | (simp only [Sl.b]; go_simp; omega)) grI
   · have t8 : ((i : Int) == 8) = false := by simp; omega
     have t11 : ((i : Int) == 11) = false := by simp; omega
     have HN : Hid (zdw i = (zf9 ++ zka).getD i zs2) := zp1 i hi h8 h11
     go_enter Tryz.func155, Tryz.ntmps155
     go_wp2_with (first | (go_at_call 179; refine (zi9 _).mono ?_; rintro e' w' ⟨⟨b1, l1, rfl, hn1, hr1, hc1, ho1⟩, nx, rfl⟩; have H1 := Lib.hid (And.intro hr1 (And.intro hc1 ho1)); clear hr1 hc1 ho1 hn1) | (go_at_call 180; refine (zlw _).mono ?_; rintro e' w' ⟨⟨b2, l2, rfl, hn2, hr2, hc2, ho2⟩, nx, rfl⟩; (try simp only [zae] at hr2); (try simp only [zad] at hr2); (try simp only [zae] at ho2); (try simp only [zad] at ho2); have H2 := Lib.hid (And.intro hr2 (And.intro hc2 ho2)); clear hr2 hc2 ho2 hn2) | (at_builtin; refine zgq rfl _ _ 199 rfl 99 Tryz.t99 (.agg (CdV.arr ⟨0, 0, false, 0, 0, 0, 0, 0, 0, 0, 0, 0, .nil⟩)) 13 120 Tryz.underlying199 (by kernel_rfl) (by kernel_rfl) (by kernel_rfl) (by kernel_rfl) (by omega) rfl (.mk b1 0 6 6) (.mk b2 0 6 6) (zda (l1.map CdV.arr)) (zda (l2.map CdV.arr)) rfl rfl (H1.out.1.grow grI).cells (by show 6 < 12; decide) (H2.out.1.grow grI).cells (zdb (by simp [CdV.one])) (by show 12 ≤ 4194304; decide) ?_; intro s2 y c1 c2 c3; obtain ⟨c, q1, q2, q3, q4, q5, q6⟩ := zgn hi H1.out.2.1 H2.out.2.1 (H1.out.2.2.grow grI) (H2.out.2.2.low (by first | (go_simp; done) | (go_simp; omega) | (simp only [Sl.b]; go_simp; omega))) c1; (try simp only [zae] at q1); (try simp only [zad] at q1); (try simp only [zae] at q2); (try simp only [zad] at q2); (try simp only [zae] at q3); (try simp only [zad] at q3); (rw [zac] at q1); (rw [ze0, if_neg (by simp only [zac, zaa] at c3 ⊢; omega)] at q2 q3); have hs2 : s2.n = 12 := c2; have q0 : w.heap.size + 1 ≤ s2.b := (by simp only [zac, zaa] at c3; omega); (simp only [zaa] at q1); have Q := Lib.hid (And.intro q4 (And.intro q5 q6)); clear c1 c2 c3 q4 q5 q6))
     refine bodyPost_ret (zba rfl _ _ _ rfl ?_) rfl ?_
     · go_simp
     · refine ⟨c, by go_simp, ?_, grI⟩
       rw [HN.out]
       exact Q.out.2.1.to (b := w.heap.size) grI (Off.plus (Off.base w _ _ _ rfl) _) (by first | (go_simp; done) | (go_simp; omega) | (simp only [Sl.b]; go_simp; omega)) (by first | (go_simp; done) | (go_simp; omega) | (simp only [Sl.b]; go_simp; omega)) grI
end Go.Proofs.YthfalocligkamaaGreatDoor
namespace Go.Proofs.YthfalocligkamaaGreatDoor
open Go Go.RowKit
@[go_sem] theorem zxq (w : World) (a p t s : Int) (c0 c1 c2 c3 c4 c5 : Int) : (za0 99 #[(0, .int .i64 1), (1, .int .i64 a), (3, .agg (cellsOf [c0, c1, c2, c3, c4, c5])), (4, .int .i64 p), (5, .int .i64 t), (6, .int .i64 s)]).run Tryz.prog w = .ok (.value (.agg (CdV.arr ⟨1, a, false, c0, c1, c2, c3, c4, c5, p, t, s, .nil⟩))) w := by kernel_rfl
@[go_sem] theorem zz2 (w : World) (b o sb so n c : Nat) (h : (w.cell? ⟨b, o, none⟩).isSome = true) (hf : w.frozen? ⟨b, o, none⟩ = false) : (zaz 97 (.pointer (some ⟨b, o, none⟩)) (.slice (some ⟨sb, so, none⟩) n c)).run Tryz.prog w = .ok .skip (w.setCell ⟨b, o, none⟩ (.slice (some ⟨sb, so, none⟩) n c)) :=
 zcf w b o 97 (.mk sb so n c) (by kernel_rfl) h hf
theorem AbIs.nums (w : World) (n : Nat) {wh c0 c1 c2 c3 c4 c5 tg o a b c : Int} {tap : Bool} {f : AbF} (h1 : wh = f.wh) (h2 : [c0, c1, c2, c3, c4, c5] = f.cost) (h3 : tap = f.tap) (h4 : tg = f.tg) (h5 : o = f.ef.op) (h6 : a = f.ef.n) (h7 : b = f.ef.m) (h8 : c = f.ef.who) (h9 : f.ef.subs = []) :
 AbIs w n ⟨wh, c0, c1, c2, c3, c4, c5, tap, tg, ⟨o, a, b, c, .nil⟩⟩ f :=
 ⟨h1, h2, h3, h4, ⟨h5, h6, h7, h8, by rw [h9]; exact RowsV.nil _ _, fun _ h => h.elim⟩⟩
theorem zdy : ∀ i : Nat, i < 40 → (i : Int) / 5 / 2 + 1 = gt zch (i / 5) ∧ ((i : Int) / 5 + 1) / 2 + 1 = gt zb9 (i / 5) ∧ wrap64 (2 ^ (i / 5)) = gt zc2 (i / 5) := by decide +kernel
theorem zdx : ∀ i : Nat, i < 40 → zi3 (((i : Int) % 5).toNat) (1 + (i : Int) / 5 / 4) ((i : Int) / 5) = za8 (i % 5) (if 3 < i / 5 then 2 else 1) ((i / 5 : Nat) : Int) := by decide +kernel
theorem zmt : zi3 3 1 0 = noCost.set 3 1 ∧ zi3 4 1 0 = noCost.set 4 1 := by decide +kernel
set_option maxRecDepth 100000 in
set_option maxHeartbeats 2000000 in
theorem z6d (w : World) (i : Nat) (hi : i < 40) (hm : i % 5 = 0) : Calls Tryz.prog 151 #[.int .i64 (i : Int)] w fun r w' => ∃ c : CdV, r = .returned (.agg c.arr) ∧ CardIs w' w.heap.size c (zbk (i % 5) (i / 5)) ∧ Grow w w' := by
 have hF : zbk (i % 5) (i / 5) = ⟨1, 0, false, za8 (i % 5) (if 3 < i / 5 then 2 else 1) ((i / 5 : Nat) : Int), gt zch (i / 5), gt zb9 (i / 5), gt zc2 (i / 5), [zfi ⟨2, ((i / 5 : Nat) : Int) + 1, 0, 0, []⟩]⟩ := by unfold zbk; rw [hm]; simp
 obtain ⟨n1, n2, n3⟩ := zdy i hi
 have hco := zdx i hi
 have hmi : (i : Int) % 5 = 0 := by omega
 have m0 : ((i : Int) % 5 == 0) = true := by rw [hmi]; rfl
 have m1 : ((i : Int) % 5 == 1) = false := by rw [hmi]; rfl
 have m2 : ((i : Int) % 5 == 2) = false := by rw [hmi]; rfl
 have m3 : ((i : Int) % 5 == 3) = false := by rw [hmi]; rfl
 have HF := Lib.hid hF
 have HP := Lib.hid n1
 have HT := Lib.hid n2
 have HW := Lib.hid n3
 have HCo := Lib.hid hco
 have HK : Hid ((i : Int) / 5 + 1 = ((i / 5 : Nat) : Int) + 1) := by rw [Hid]; omega
 have HM := Lib.hid hmi
 clear hF n1 n2 n3 hco hm hmi
 go_enter Tryz.func151, Tryz.ntmps151
 go_wp2_with (first | (go_at_call 167; refine (zbb _ _ _ _ _).mono ?_; rintro e' w' ⟨rfl, nx, rfl⟩) | (go_at_call 166; refine (zbe _ _ _).mono ?_; rintro e' w' ⟨rfl, nx, rfl⟩) | (go_at_call 152; refine (za1 _ _ _ _ (by omega) (by omega)).mono ?_; rintro e' w' ⟨d0, d1, d2, d3, d4, d5, rfl, hc, nx, rfl⟩; first | (have HC1 := Lib.hid (hc.trans HCo.out); clear hc) | (have HC2 := Lib.hid hc; clear hc)) | (go_at_call 168; refine (zay _ _ _ _ _ _ _ _ _ _).mono ?_; rintro e' w' ⟨rfl, nx, rfl⟩))
 refine bodyPost_ret (zba rfl _ _ _ rfl ?_) rfl ?_
 · go_simp
 · rw [HF.out]
   refine ⟨_, (by go_simp; rfl), ⟨rfl, HM.out, rfl, HC1.out, by show _ = gt zch (i / 5); rw [← HP.out], by show _ = gt zb9 (i / 5); rw [← HT.out], HW.out, ?_⟩, grI⟩
   exact ⟨[_], RowsV.one (x := AbV.arr _) (by go_simp) (by go_simp; rfl) (by go_simp), .inr (by first | (go_simp; done) | (go_simp; omega) | (simp only [Sl.b]; go_simp; omega)), .cons (AbIs.nums _ _ (by rfl) (by rfl) (by rfl) (by rfl) (by rfl) HK.out (by rfl) (by rfl) (by rfl)) .nil⟩
set_option maxRecDepth 100000 in
set_option maxHeartbeats 2000000 in
theorem z0e (w : World) (i : Nat) (hi : i < 40) (hm : i % 5 = 1) (h2 : i / 5 % 2 = 0) : Calls Tryz.prog 151 #[.int .i64 (i : Int)] w fun r w' => ∃ c : CdV, r = .returned (.agg c.arr) ∧ CardIs w' w.heap.size c (zbk (i % 5) (i / 5)) ∧ Grow w w' := by
 have hF : zbk (i % 5) (i / 5) = ⟨1, 1, false, za8 (i % 5) (if 3 < i / 5 then 2 else 1) ((i / 5 : Nat) : Int), gt zch (i / 5), gt zb9 (i / 5), gt zc2 (i / 5), []⟩ := by unfold zbk; rw [hm]; simp [h2]
 obtain ⟨n1, n2, n3⟩ := zdy i hi
 have hco := zdx i hi
 have hmi : (i : Int) % 5 = 1 := by omega
 have m0 : ((i : Int) % 5 == 0) = false := by rw [hmi]; rfl
 have m1 : ((i : Int) % 5 == 1) = true := by rw [hmi]; rfl
 have m2 : ((i : Int) % 5 == 2) = false := by rw [hmi]; rfl
 have m3 : ((i : Int) % 5 == 3) = false := by rw [hmi]; rfl
 have k2 : (i : Int) / 5 % 2 = 0 := by omega
 have k3 : ((i : Int) / 5 % 2 == 1) = false := by rw [k2]; rfl
 have HF := Lib.hid hF
 have HP := Lib.hid n1
 have HT := Lib.hid n2
 have HW := Lib.hid n3
 have HCo := Lib.hid hco
 have HK : Hid ((i : Int) / 5 + 1 = ((i / 5 : Nat) : Int) + 1) := by rw [Hid]; omega
 have HM := Lib.hid hmi
 clear hF n1 n2 n3 hco hm hmi
 go_enter Tryz.func151, Tryz.ntmps151
 go_wp2_with (first | (go_at_call 167; refine (zbb _ _ _ _ _).mono ?_; rintro e' w' ⟨rfl, nx, rfl⟩) | (go_at_call 166; refine (zbe _ _ _).mono ?_; rintro e' w' ⟨rfl, nx, rfl⟩) | (go_at_call 152; refine (za1 _ _ _ _ (by omega) (by omega)).mono ?_; rintro e' w' ⟨d0, d1, d2, d3, d4, d5, rfl, hc, nx, rfl⟩; first | (have HC1 := Lib.hid (hc.trans HCo.out); clear hc) | (have HC2 := Lib.hid hc; clear hc)) | (go_at_call 168; refine (zay _ _ _ _ _ _ _ _ _ _).mono ?_; rintro e' w' ⟨rfl, nx, rfl⟩))
 refine bodyPost_ret (zba rfl _ _ _ rfl ?_) rfl ?_
 · go_simp
 · rw [HF.out]
   refine ⟨_, (by go_simp; rfl), ⟨rfl, HM.out, rfl, HC1.out, by show _ = gt zch (i / 5); rw [← HP.out], by show _ = gt zb9 (i / 5); rw [← HT.out], HW.out, ?_⟩, grI⟩
   exact ⟨[], RowsV.nil _ _, .inl rfl, .nil⟩
set_option maxRecDepth 100000 in
set_option maxHeartbeats 2000000 in
theorem z0f (w : World) (i : Nat) (hi : i < 40) (hm : i % 5 = 1) (h2 : i / 5 % 2 = 1) : Calls Tryz.prog 151 #[.int .i64 (i : Int)] w fun r w' => ∃ c : CdV, r = .returned (.agg c.arr) ∧ CardIs w' w.heap.size c (zbk (i % 5) (i / 5)) ∧ Grow w w' := by
 have hF : zbk (i % 5) (i / 5) = ⟨1, 1, false, za8 (i % 5) (if 3 < i / 5 then 2 else 1) ((i / 5 : Nat) : Int), gt zch (i / 5), gt zb9 (i / 5), gt zc2 (i / 5), [zfi ⟨4, 1, 0, 0, []⟩]⟩ := by unfold zbk; rw [hm]; simp [h2]
 obtain ⟨n1, n2, n3⟩ := zdy i hi
 have hco := zdx i hi
 have hmi : (i : Int) % 5 = 1 := by omega
 have m0 : ((i : Int) % 5 == 0) = false := by rw [hmi]; rfl
 have m1 : ((i : Int) % 5 == 1) = true := by rw [hmi]; rfl
 have m2 : ((i : Int) % 5 == 2) = false := by rw [hmi]; rfl
 have m3 : ((i : Int) % 5 == 3) = false := by rw [hmi]; rfl
 have k2 : (i : Int) / 5 % 2 = 1 := by omega
 have k3 : ((i : Int) / 5 % 2 == 1) = true := by rw [k2]; rfl
 have HF := Lib.hid hF
 have HP := Lib.hid n1
 have HT := Lib.hid n2
 have HW := Lib.hid n3
 have HCo := Lib.hid hco
 have HK : Hid ((i : Int) / 5 + 1 = ((i / 5 : Nat) : Int) + 1) := by rw [Hid]; omega
 have HM := Lib.hid hmi
 clear hF n1 n2 n3 hco hm hmi
 go_enter Tryz.func151, Tryz.ntmps151
 go_wp2_with (first | (go_at_call 167; refine (zbb _ _ _ _ _).mono ?_; rintro e' w' ⟨rfl, nx, rfl⟩) | (go_at_call 166; refine (zbe _ _ _).mono ?_; rintro e' w' ⟨rfl, nx, rfl⟩) | (go_at_call 152; refine (za1 _ _ _ _ (by omega) (by omega)).mono ?_; rintro e' w' ⟨d0, d1, d2, d3, d4, d5, rfl, hc, nx, rfl⟩; first | (have HC1 := Lib.hid (hc.trans HCo.out); clear hc) | (have HC2 := Lib.hid hc; clear hc)) | (go_at_call 168; refine (zay _ _ _ _ _ _ _ _ _ _).mono ?_; rintro e' w' ⟨rfl, nx, rfl⟩))
 refine bodyPost_ret (zba rfl _ _ _ rfl ?_) rfl ?_
 · go_simp
 · rw [HF.out]
   refine ⟨_, (by go_simp; rfl), ⟨rfl, HM.out, rfl, HC1.out, by show _ = gt zch (i / 5); rw [← HP.out], by show _ = gt zb9 (i / 5); rw [← HT.out], HW.out, ?_⟩, grI⟩
   exact ⟨[_], RowsV.one (x := AbV.arr _) (by go_simp) (by go_simp; rfl) (by go_simp), .inr (by first | (go_simp; done) | (go_simp; omega) | (simp only [Sl.b]; go_simp; omega)), .cons ⟨rfl, rfl, rfl, rfl, EfIs.plain _ _ _ _ _ _⟩ .nil⟩
set_option maxRecDepth 100000 in
set_option maxHeartbeats 2000000 in
theorem z6e (w : World) (i : Nat) (hi : i < 40) (hm : i % 5 = 2) : Calls Tryz.prog 151 #[.int .i64 (i : Int)] w fun r w' => ∃ c : CdV, r = .returned (.agg c.arr) ∧ CardIs w' w.heap.size c (zbk (i % 5) (i / 5)) ∧ Grow w w' := by
 have hF : zbk (i % 5) (i / 5) = ⟨1, 2, false, za8 (i % 5) (if 3 < i / 5 then 2 else 1) ((i / 5 : Nat) : Int), gt zch (i / 5), gt zb9 (i / 5), gt zc2 (i / 5), [⟨3, noCost, false, 0, ⟨3, gt zch (i / 5), 0, 1, []⟩⟩]⟩ := by unfold zbk; rw [hm]; simp
 obtain ⟨n1, n2, n3⟩ := zdy i hi
 have hco := zdx i hi
 have hmi : (i : Int) % 5 = 2 := by omega
 have m0 : ((i : Int) % 5 == 0) = false := by rw [hmi]; rfl
 have m1 : ((i : Int) % 5 == 1) = false := by rw [hmi]; rfl
 have m2 : ((i : Int) % 5 == 2) = true := by rw [hmi]; rfl
 have m3 : ((i : Int) % 5 == 3) = false := by rw [hmi]; rfl
 have HF := Lib.hid hF
 have HP := Lib.hid n1
 have HT := Lib.hid n2
 have HW := Lib.hid n3
 have HCo := Lib.hid hco
 have HK : Hid ((i : Int) / 5 + 1 = ((i / 5 : Nat) : Int) + 1) := by rw [Hid]; omega
 have HM := Lib.hid hmi
 clear hF n1 n2 n3 hco hm hmi
 go_enter Tryz.func151, Tryz.ntmps151
 go_wp2_with (first | (go_at_call 167; refine (zbb _ _ _ _ _).mono ?_; rintro e' w' ⟨rfl, nx, rfl⟩) | (go_at_call 166; refine (zbe _ _ _).mono ?_; rintro e' w' ⟨rfl, nx, rfl⟩) | (go_at_call 152; refine (za1 _ _ _ _ (by omega) (by omega)).mono ?_; rintro e' w' ⟨d0, d1, d2, d3, d4, d5, rfl, hc, nx, rfl⟩; first | (have HC1 := Lib.hid (hc.trans HCo.out); clear hc) | (have HC2 := Lib.hid hc; clear hc)) | (go_at_call 168; refine (zay _ _ _ _ _ _ _ _ _ _).mono ?_; rintro e' w' ⟨rfl, nx, rfl⟩))
 refine bodyPost_ret (zba rfl _ _ _ rfl ?_) rfl ?_
 · go_simp
 · rw [HF.out]
   refine ⟨_, (by go_simp; rfl), ⟨rfl, HM.out, rfl, HC1.out, by show _ = gt zch (i / 5); rw [← HP.out], by show _ = gt zb9 (i / 5); rw [← HT.out], HW.out, ?_⟩, grI⟩
   exact ⟨[_], RowsV.one (x := AbV.arr _) (by go_simp) (by go_simp; rfl) (by go_simp), .inr (by first | (go_simp; done) | (go_simp; omega) | (simp only [Sl.b]; go_simp; omega)), .cons (AbIs.nums _ _ (by rfl) (by rfl) (by rfl) (by rfl) (by rfl) HP.out (by rfl) (by rfl) (by rfl)) .nil⟩
set_option maxRecDepth 100000 in
set_option maxHeartbeats 2000000 in
theorem z6f (w : World) (i : Nat) (hi : i < 40) (hm : i % 5 = 3) : Calls Tryz.prog 151 #[.int .i64 (i : Int)] w fun r w' => ∃ c : CdV, r = .returned (.agg c.arr) ∧ CardIs w' w.heap.size c (zbk (i % 5) (i / 5)) ∧ Grow w w' := by
 have hF : zbk (i % 5) (i / 5) = ⟨1, 3, false, za8 (i % 5) (if 3 < i / 5 then 2 else 1) ((i / 5 : Nat) : Int), gt zch (i / 5) + 1, gt zb9 (i / 5), gt zc2 (i / 5), [⟨1, noCost.set 3 1, true, 3, ⟨1, 1, 0, 2, []⟩⟩]⟩ := by unfold zbk; rw [hm]; simp
 obtain ⟨n1, n2, n3⟩ := zdy i hi
 have hco := zdx i hi
 have hmi : (i : Int) % 5 = 3 := by omega
 have m0 : ((i : Int) % 5 == 0) = false := by rw [hmi]; rfl
 have m1 : ((i : Int) % 5 == 1) = false := by rw [hmi]; rfl
 have m2 : ((i : Int) % 5 == 2) = false := by rw [hmi]; rfl
 have m3 : ((i : Int) % 5 == 3) = true := by rw [hmi]; rfl
 have HF := Lib.hid hF
 have HP := Lib.hid n1
 have HT := Lib.hid n2
 have HW := Lib.hid n3
 have HCo := Lib.hid hco
 have HK : Hid ((i : Int) / 5 + 1 = ((i / 5 : Nat) : Int) + 1) := by rw [Hid]; omega
 have HM := Lib.hid hmi
 clear hF n1 n2 n3 hco hm hmi
 go_enter Tryz.func151, Tryz.ntmps151
 go_wp2_with (first | (go_at_call 167; refine (zbb _ _ _ _ _).mono ?_; rintro e' w' ⟨rfl, nx, rfl⟩) | (go_at_call 166; refine (zbe _ _ _).mono ?_; rintro e' w' ⟨rfl, nx, rfl⟩) | (go_at_call 152; refine (za1 _ _ _ _ (by omega) (by omega)).mono ?_; rintro e' w' ⟨d0, d1, d2, d3, d4, d5, rfl, hc, nx, rfl⟩; first | (have HC1 := Lib.hid (hc.trans HCo.out); clear hc) | (have HC2 := Lib.hid hc; clear hc)) | (go_at_call 168; refine (zay _ _ _ _ _ _ _ _ _ _).mono ?_; rintro e' w' ⟨rfl, nx, rfl⟩))
 refine bodyPost_ret (zba rfl _ _ _ rfl ?_) rfl ?_
 · go_simp
 · rw [HF.out]
   refine ⟨_, (by go_simp; rfl), ⟨rfl, HM.out, rfl, HC1.out, by show _ = gt zch (i / 5) + 1; rw [← HP.out], by show _ = gt zb9 (i / 5); rw [← HT.out], HW.out, ?_⟩, grI⟩
   exact ⟨[_], RowsV.one (x := AbV.arr _) (by go_simp) (by go_simp; rfl) (by go_simp), .inr (by first | (go_simp; done) | (go_simp; omega) | (simp only [Sl.b]; go_simp; omega)), .cons ⟨rfl, ((HC2.out.trans (congrArg (fun z : Int => zi3 z.toNat 1 0) HM.out)).trans zmt.1), rfl, rfl, EfIs.plain _ _ _ _ _ _⟩ .nil⟩
set_option maxRecDepth 100000 in
set_option maxHeartbeats 2000000 in
theorem z6g (w : World) (i : Nat) (hi : i < 40) (hm : i % 5 = 4) : Calls Tryz.prog 151 #[.int .i64 (i : Int)] w fun r w' => ∃ c : CdV, r = .returned (.agg c.arr) ∧ CardIs w' w.heap.size c (zbk (i % 5) (i / 5)) ∧ Grow w w' := by
 have hF : zbk (i % 5) (i / 5) = ⟨1, 4, false, za8 (i % 5) (if 3 < i / 5 then 2 else 1) ((i / 5 : Nat) : Int), gt zch (i / 5), gt zb9 (i / 5) + 1, gt zc2 (i / 5), [⟨1, noCost.set 4 1, false, 0, ⟨10, 1, 1, 3, []⟩⟩]⟩ := by unfold zbk; rw [hm]; simp
 obtain ⟨n1, n2, n3⟩ := zdy i hi
 have hco := zdx i hi
 have hmi : (i : Int) % 5 = 4 := by omega
 have m0 : ((i : Int) % 5 == 0) = false := by rw [hmi]; rfl
 have m1 : ((i : Int) % 5 == 1) = false := by rw [hmi]; rfl
 have m2 : ((i : Int) % 5 == 2) = false := by rw [hmi]; rfl
 have m3 : ((i : Int) % 5 == 3) = false := by rw [hmi]; rfl
 have HF := Lib.hid hF
 have HP := Lib.hid n1
 have HT := Lib.hid n2
 have HW := Lib.hid n3
 have HCo := Lib.hid hco
 have HK : Hid ((i : Int) / 5 + 1 = ((i / 5 : Nat) : Int) + 1) := by rw [Hid]; omega
 have HM := Lib.hid hmi
 clear hF n1 n2 n3 hco hm hmi
 go_enter Tryz.func151, Tryz.ntmps151
 go_wp2_with (first | (go_at_call 167; refine (zbb _ _ _ _ _).mono ?_; rintro e' w' ⟨rfl, nx, rfl⟩) | (go_at_call 166; refine (zbe _ _ _).mono ?_; rintro e' w' ⟨rfl, nx, rfl⟩) | (go_at_call 152; refine (za1 _ _ _ _ (by omega) (by omega)).mono ?_; rintro e' w' ⟨d0, d1, d2, d3, d4, d5, rfl, hc, nx, rfl⟩; first | (have HC1 := Lib.hid (hc.trans HCo.out); clear hc) | (have HC2 := Lib.hid hc; clear hc)) | (go_at_call 168; refine (zay _ _ _ _ _ _ _ _ _ _).mono ?_; rintro e' w' ⟨rfl, nx, rfl⟩))
 refine bodyPost_ret (zba rfl _ _ _ rfl ?_) rfl ?_
 · go_simp
 · rw [HF.out]
   refine ⟨_, (by go_simp; rfl), ⟨rfl, HM.out, rfl, HC1.out, by show _ = gt zch (i / 5); rw [← HP.out], by show _ = gt zb9 (i / 5) + 1; rw [← HT.out], HW.out, ?_⟩, grI⟩
   exact ⟨[_], RowsV.one (x := AbV.arr _) (by go_simp) (by go_simp; rfl) (by go_simp), .inr (by first | (go_simp; done) | (go_simp; omega) | (simp only [Sl.b]; go_simp; omega)), .cons ⟨rfl, ((HC2.out.trans (congrArg (fun z : Int => zi3 z.toNat 1 0) HM.out)).trans zmt.2), rfl, rfl, EfIs.plain _ _ _ _ _ _⟩ .nil⟩
theorem zvh (w : World) (i : Nat) (hi : i < 40) : Calls Tryz.prog 151 #[.int .i64 (i : Int)] w fun r w' => ∃ c : CdV, r = .returned (.agg c.arr) ∧ CardIs w' w.heap.size c (zbk (i % 5) (i / 5)) ∧ Grow w w' := by
 have : i % 5 = 0 ∨ i % 5 = 1 ∨ i % 5 = 2 ∨ i % 5 = 3 ∨ i % 5 = 4 := by omega
 rcases this with h | h | h | h | h
 · exact z6d w i hi h
 · rcases Nat.mod_two_eq_zero_or_one (i / 5) with h2 | h2
   · exact z0e w i hi h h2
   · exact z0f w i hi h h2
 · exact z6e w i hi h
 · exact z6f w i hi h
 · exact z6g w i hi h
end Go.Proofs.YthfalocligkamaaGreatDoor
namespace Go.Proofs.YthfalocligkamaaGreatDoor
open Go Go.RowKit
theorem zaj {fn : Func} {p q : Tmp} (h : fn.results = #[.cell p 99, .tmp q]) (tmps : Array Value) (w : World) (b : Nat) (hp : tmps.getD p undef = .pointer (some ⟨b, 0, none⟩)) (h1 : (w.blk b).size = 13) :
 (results fn tmps).run Tryz.prog w = .ok (.tuple #[.agg (sub (w.blk b) 0 13), tmps.getD q undef]) w := by
 unfold results
 rw [h]
 have e1 := zie w b h1
 have hp' : tmps[p]?.getD undef = .pointer (some ⟨b, 0, none⟩) := by simpa using hp
 simp [asAddr, hp', e1]
@[go_sem] theorem z9v (w : World) (cs : Array Value) (q : IntKind) (i : Int) (h0 : 0 ≤ i) (h1 : i < 5) : (Instr.index 189 (.agg cs) (.int q i)).run Tryz.prog w = .ok (.agg (sub cs (i.toNat * 56) 56)) w :=
 zb7 w 189 188 5 56 Tryz.underlying189 (fun w => by kernel_rfl) (fun w => by kernel_rfl) cs q i h0 h1
@[go_sem] theorem yb7 (w : World) (cs : Array Value) (q : IntKind) (i : Int) (h0 : 0 ≤ i) (h1 : i < 4) : (Instr.index 188 (.agg cs) (.int q i)).run Tryz.prog w = .ok (.agg (sub cs (i.toNat * 14) 14)) w :=
 zb7 w 188 152 4 14 Tryz.underlying188 (fun w => by kernel_rfl) (fun w => by kernel_rfl) cs q i h0 h1
@[go_sem] theorem z9w (w : World) (cs : Array Value) (q : IntKind) (i : Int) (h0 : 0 ≤ i) (h1 : i < 5) : (Instr.index 186 (.agg cs) (.int q i)).run Tryz.prog w = .ok (.agg (sub cs (i.toNat * 84) 84)) w :=
 zb7 w 186 185 5 84 Tryz.underlying186 (fun w => by kernel_rfl) (fun w => by kernel_rfl) cs q i h0 h1
@[go_sem] theorem yb8 (w : World) (cs : Array Value) (q : IntKind) (i : Int) (h0 : 0 ≤ i) (h1 : i < 6) : (Instr.index 185 (.agg cs) (.int q i)).run Tryz.prog w = .ok (.agg (sub cs (i.toNat * 14) 14)) w :=
 zb7 w 185 152 6 14 Tryz.underlying185 (fun w => by kernel_rfl) (fun w => by kernel_rfl) cs q i h0 h1
@[go_sem] theorem zxw (w : World) (a : Int) (f : Bool) (c0 c1 c2 c3 c4 c5 : Int) (k o n c : Nat) : (za0 99 #[(0, .int .i64 2), (1, .int .i64 a), (2, .bool f), (3, .agg (cellsOf [c0, c1, c2, c3, c4, c5])), (7, .slice (some ⟨k, o, none⟩) n c)]).run Tryz.prog w = .ok (.value (.agg (CdV.arr ⟨2, a, f, c0, c1, c2, c3, c4, c5, 0, 0, 0, .mk k o n c⟩))) w := by kernel_rfl
@[go_sem] theorem zxu (w : World) (a : Int) (c0 c1 c2 c3 c4 c5 : Int) (k o n c : Nat) : (za0 99 #[(0, .int .i64 3), (1, .int .i64 a), (3, .agg (cellsOf [c0, c1, c2, c3, c4, c5])), (7, .slice (some ⟨k, o, none⟩) n c)]).run Tryz.prog w = .ok (.value (.agg (CdV.arr ⟨3, a, false, c0, c1, c2, c3, c4, c5, 0, 0, 0, .mk k o n c⟩))) w := by kernel_rfl
@[go_sem] theorem zxx (w : World) (p t s : Int) : (za0 99 #[(0, .int .i64 1), (1, .int .i64 5), (4, .int .i64 p), (5, .int .i64 t), (6, .int .i64 s)]).run Tryz.prog w = .ok (.value (.agg (CdV.arr ⟨1, 5, false, 0, 0, 0, 0, 0, 0, p, t, s, .nil⟩))) w := by kernel_rfl
def z0b (w w' : World) (r : Ending) (d : CardN) : Prop := ∃ c : CdV, r = .returned (.tuple #[.agg c.arr, .nilIface]) ∧ CardOk w' w.heap.size c d ∧ Grow w w'
def zey (w w' : World) (r : Ending) (d : CardF) : Prop := ∃ c : CdV, r = .returned (.tuple #[.agg c.arr, .nilIface]) ∧ CardIs w' w.heap.size c d ∧ Grow w w'
theorem CardOk.to {b : Nat} {w w1 w2 w3 : World} {m n : Nat} {c : CdV} {d : CardN} (h : CardOk w n c d) (g : Grow w w1) (ho : Off b w1 w2) (hb : b < n) (hm : m ≤ n) (g3 : Grow w2 w3) : CardOk w3 m c d :=
 (((h.grow g).off ho hb).low hm).grow g3
theorem CardOk.tune {w : World} {n : Nat} {c : CdV} {d : CardN} (h : CardOk w n c d) (p t s : Int) : CardOk w n { c with pw := p, tf := t, says := s } { d with pw := p, tf := t, says := s } := ⟨h.kind, rfl, rfl, rfl, h.abs⟩
theorem AbsOk.append {w : World} {n : Nat} {l l' : List AbV} {m m' : List AbN} (h : AbsOk w n l m) (h' : AbsOk w n l' m') : AbsOk w n (l ++ l') (m ++ m') := by
 induction h with
 | nil => exact h'
 | cons h _ ih => exact .cons h ih
theorem zt5 : ∀ n : Nat, n < 30 → zi3 (((n : Int) % 5).toNat) 1 ((n : Int) / 5) = za8 (n % 5) 1 ((n / 5 : Nat) : Int) := by decide +kernel
theorem zs9 : ∀ n : Nat, n < 20 → zi3 (((n : Int) % 5).toNat) 1 ((n : Int) / 5 + 1) = za8 (n % 5) 1 (((n / 5 : Nat) : Int) + 1) := by decide +kernel
theorem zt9 (m : Nat) (hm : m < 8) : zaq (m + 112) = ⟨1, 5, false, noCost, (m : Int) / 2 + 1, (m : Int) / 2 + 1, (m : Int) % 2, []⟩ := by
 have : m = 0 ∨ m = 1 ∨ m = 2 ∨ m = 3 ∨ m = 4 ∨ m = 5 ∨ m = 6 ∨ m = 7 := by omega
 rcases this with rfl | rfl | rfl | rfl | rfl | rfl | rfl | rfl <;> rfl
set_option maxRecDepth 100000 in
set_option maxHeartbeats 2000000 in
theorem zoq (w : World) (n : Nat) (hn : n < 10) : Calls Tryz.prog 130 #[.int .i64 (n : Int)] w fun r w' => zey w w' r (zaq n) := by
 go_enter Tryz.func130, Tryz.ntmps130
 go_wp2_with (go_at_call 150; refine (zt3 _ n hn).mono ?_; rintro e' w' ⟨c, rfl, hc, nx, rfl⟩; have HC := Lib.hid hc; clear hc)
 refine bodyPost_ret (zaj rfl _ _ _ rfl ?_) rfl ?_
 · go_simp
 · exact ⟨c, by go_simp, HC.out.to (b := w.heap.size) grI (Off.plus (Off.base w _ _ _ rfl) _) (by first | (go_simp; done) | (go_simp; omega) | (simp only [Sl.b]; go_simp; omega)) (by first | (go_simp; done) | (go_simp; omega) | (simp only [Sl.b]; go_simp; omega)) grI, grI⟩
set_option maxRecDepth 100000 in
set_option maxHeartbeats 2000000 in
theorem zrz (w : World) (n : Nat) (hn : n < 40) : Calls Tryz.prog 130 #[.int .i64 ((n : Int) + 10)] w fun r w' => zey w w' r (zbk (n % 5) (n / 5)) := by
 go_enter Tryz.func130, Tryz.ntmps130
 go_wp2_with (go_at_call 151; refine (zvh _ n hn).mono ?_; rintro e' w' ⟨c, rfl, hc, nx, rfl⟩; have HC := Lib.hid hc; clear hc)
 refine bodyPost_ret (zaj rfl _ _ _ rfl ?_) rfl ?_
 · go_simp
 · exact ⟨c, by go_simp, HC.out.to (b := w.heap.size) grI (Off.plus (Off.base w _ _ _ rfl) _) (by first | (go_simp; done) | (go_simp; omega) | (simp only [Sl.b]; go_simp; omega)) (by first | (go_simp; done) | (go_simp; omega) | (simp only [Sl.b]; go_simp; omega)) grI, grI⟩
set_option maxRecDepth 100000 in
set_option maxHeartbeats 2000000 in
theorem zmv (w : World) (n : Nat) (hn : n < 12) : Calls Tryz.prog 130 #[.int .i64 ((n : Int) + 100)] w fun r w' => zey w w' r (zdw n) := by
 go_enter Tryz.func130, Tryz.ntmps130
 go_wp2_with (go_at_call 155; refine (zp2 _ n hn).mono ?_; rintro e' w' ⟨c, rfl, hc, nx, rfl⟩; have HC := Lib.hid hc; clear hc)
 refine bodyPost_ret (zaj rfl _ _ _ rfl ?_) rfl ?_
 · go_simp
 · exact ⟨c, by go_simp, HC.out.to (b := w.heap.size) grI (Off.plus (Off.base w _ _ _ rfl) _) (by first | (go_simp; done) | (go_simp; omega) | (simp only [Sl.b]; go_simp; omega)) (by first | (go_simp; done) | (go_simp; omega) | (simp only [Sl.b]; go_simp; omega)) grI, grI⟩
set_option maxRecDepth 100000 in
set_option maxHeartbeats 2000000 in
theorem zr2 (w : World) (n : Nat) (hn : n < 8) : Calls Tryz.prog 130 #[.int .i64 ((n : Int) + 112)] w fun r w' => zey w w' r ⟨1, 5, false, noCost, (n : Int) / 2 + 1, (n : Int) / 2 + 1, (n : Int) % 2, []⟩ := by
 go_enter Tryz.func130, Tryz.ntmps130
 go_wp2_with fail
 refine bodyPost_ret (zaj rfl _ _ _ rfl ?_) rfl ?_
 · go_simp
 · refine ⟨_, (by go_simp; rfl), ⟨rfl, rfl, rfl, rfl, rfl, rfl, rfl, [], RowsV.nil _ _, .inl rfl, .nil⟩, grI⟩
set_option maxRecDepth 100000 in
set_option maxHeartbeats 2000000 in
theorem zr1 (w : World) (n : Nat) (hn : n < 30) : Calls Tryz.prog 130 #[.int .i64 ((n : Int) + 50)] w fun r w' => zey w w' r (zfb (n % 5) (n / 5)) := by
 have d1 : 0 ≤ (n : Int) % 5 ∧ (n : Int) % 5 < 5 := by omega
 have d2 : 0 ≤ (n : Int) / 5 ∧ (n : Int) / 5 < 6 := by omega
 have HCol : Hid ((n : Int) % 5 = ((n % 5 : Nat) : Int)) := by rw [Hid]; omega
 have HFa : Hid (((n : Int) / 5 % 2 == 0) = (n / 5 % 2 == 0)) := by
  rw [Hid]; rcases Nat.mod_two_eq_zero_or_one (n / 5) with h | h
  · rw [h, show (n : Int) / 5 % 2 = 0 by omega]; rfl
  · rw [h, show (n : Int) / 5 % 2 = 1 by omega]; rfl
 have HCo := Lib.hid (zt5 n hn)
 go_enter Tryz.func130, Tryz.ntmps130
 go_wp2_with (first | (go_at_call 152; refine (za1 _ _ _ _ (by omega) (by omega)).mono ?_; rintro e' w' ⟨d0, d1, d2, d3, d4, d5, rfl, hc, nx, rfl⟩; have HC := Lib.hid hc; clear hc) | (go_at_call 153; refine (zt6 _).mono ?_; rintro e' w' ⟨x, rfl, hx, nx, rfl⟩; obtain ⟨a, ha, ha0⟩ := hx (n % 5) (n / 5) (by omega) (by omega); (try simp only [zae] at ha0); (try simp only [zad] at ha0); have HX := Lib.hid ha0; clear hx ha0))
 refine bodyPost_ret (zaj rfl _ _ _ rfl ?_) rfl ?_
 · go_simp
 · refine ⟨_, (by go_simp; rfl), ⟨rfl, HCol.out, HFa.out, HC.out.trans HCo.out, rfl, rfl, rfl, ?_⟩, grI⟩
   refine ⟨[a], RowsV.one (x := AbV.arr a) (by go_simp) (by go_simp) (by go_simp), .inr (by first | (go_simp; done) | (go_simp; omega) | (simp only [Sl.b]; go_simp; omega)), .cons ?_ .nil⟩
   exact ((HX.out.off (b := w.heap.size) (Off.plus (Off.base w _ _ _ rfl) _) (by first | (go_simp; done) | (go_simp; omega) | (simp only [Sl.b]; go_simp; omega))).less (by first | (go_simp; done) | (go_simp; omega) | (simp only [Sl.b]; go_simp; omega))).grow grI
set_option maxRecDepth 100000 in
set_option maxHeartbeats 2000000 in
theorem zr0 (w : World) (n : Nat) (hn : n < 20) : Calls Tryz.prog 130 #[.int .i64 ((n : Int) + 80)] w fun r w' => zey w w' r (zfa (n % 5) (n / 5)) := by
 have d1 : 0 ≤ (n : Int) % 5 ∧ (n : Int) % 5 < 5 := by omega
 have d2 : 0 ≤ (n : Int) / 5 ∧ (n : Int) / 5 < 4 := by omega
 have HCol : Hid ((n : Int) % 5 = ((n % 5 : Nat) : Int)) := by rw [Hid]; omega
 have HCo := Lib.hid (zs9 n hn)
 go_enter Tryz.func130, Tryz.ntmps130
 go_wp2_with (first | (go_at_call 152; refine (za1 _ _ _ _ (by omega) (by omega)).mono ?_; rintro e' w' ⟨d0, d1, d2, d3, d4, d5, rfl, hc, nx, rfl⟩; have HC := Lib.hid hc; clear hc) | (go_at_call 154; refine (zta _).mono ?_; rintro e' w' ⟨x, rfl, hx, nx, rfl⟩; obtain ⟨a, ha, ha0⟩ := hx (n % 5) (n / 5) (by omega) (by omega); (try simp only [zae] at ha0); (try simp only [zad] at ha0); have HX := Lib.hid ha0; clear hx ha0))
 refine bodyPost_ret (zaj rfl _ _ _ rfl ?_) rfl ?_
 · go_simp
 · rename_i n1
   refine ⟨_, (by go_simp; rfl), ⟨rfl, HCol.out, rfl, HC.out.trans HCo.out, rfl, rfl, rfl, ?_⟩, grI⟩
   refine ⟨[a], RowsV.one (x := AbV.arr a) (by go_simp) (by go_simp) (by go_simp), .inr (by first | (go_simp; done) | (go_simp; omega) | (simp only [Sl.b]; go_simp; omega)), .cons ?_ .nil⟩
   exact ((HX.out.off (b := w.heap.size) (Off.plus (Off.base w _ _ _ rfl) _) (by first | (go_simp; done) | (go_simp; omega) | (simp only [Sl.b]; go_simp; omega))).less (by first | (go_simp; done) | (go_simp; omega) | (simp only [Sl.b]; go_simp; omega))).grow grI
theorem zvl (w : World) (n : Nat) (hn : n < 120) : Calls Tryz.prog 130 #[.int .i64 (n : Int)] w fun r w' => zey w w' r (zaq n) := by
 by_cases h10 : n < 10
 · exact zoq w n h10
 by_cases h50 : n < 50
 · obtain ⟨m, rfl⟩ : ∃ m, n = m + 10 := ⟨n - 10, by omega⟩
   have h := zrz w m (by omega)
   rw [zaq, if_neg (by omega), if_neg h10, if_pos h50, Nat.add_sub_cancel]; exact h
 by_cases h80 : n < 80
 · obtain ⟨m, rfl⟩ : ∃ m, n = m + 50 := ⟨n - 50, by omega⟩
   have h := zr1 w m (by omega)
   rw [zaq, if_neg (by omega), if_neg h10, if_neg h50, if_pos h80, Nat.add_sub_cancel]; exact h
 by_cases h100 : n < 100
 · obtain ⟨m, rfl⟩ : ∃ m, n = m + 80 := ⟨n - 80, by omega⟩
   have h := zr0 w m (by omega)
   rw [zaq, if_neg (by omega), if_neg h10, if_neg h50, if_neg h80, if_pos h100, Nat.add_sub_cancel]; exact h
 by_cases h112 : n < 112
 · obtain ⟨m, rfl⟩ : ∃ m, n = m + 100 := ⟨n - 100, by omega⟩
   have h := zmv w m (by omega)
   rw [zaq, if_neg (by omega), if_neg h10, if_neg h50, if_neg h80, if_neg h100, if_pos h112, Nat.add_sub_cancel]; exact h
 · obtain ⟨m, rfl⟩ : ∃ m, n = m + 112 := ⟨n - 112, by omega⟩
   have h := zr2 w m (by omega)
   have e : zaq (m + 112) = ⟨1, 5, false, noCost, (m : Int) / 2 + 1, (m : Int) / 2 + 1, (m : Int) % 2, []⟩ := zt9 m (by omega)
   rw [e]; exact h
theorem zqg (w : World) (n : Nat) (hn : n < 120) : Calls Tryz.prog 130 #[.int .i64 (n : Int)] w fun r w' => z0b w w' r (zcs n) :=
 (zvl w n hn).mono fun _ _ ⟨c, h1, h2, h3⟩ => ⟨c, h1, h2.ok hn, h3⟩
end Go.Proofs.YthfalocligkamaaGreatDoor
