/- Effects as they stand in memory. -/
import Derived.Test.YthfalocligkamaaGreatDoorMEx1
import Derived.Test.YthfalocligkamaaGreatDoorMLawS
import Derived.Test.YthfalocligkamaaGreatDoorMEval
import Derived.Test.YthfalocligkamaaGreatDoorMEmNew
namespace Go.Proofs.YthfalocligkamaaGreatDoor
open Go Go.RowKit Go.Shelf
def exR (op n m who : Int) (a : Option Addr) (k c : Nat) : Array Value := #[I op, I n, I m, I who, .slice a k c]
@[go_sem] theorem z03 (op n m who : Int) (a : Option Addr) (k c : Nat) : (exR op n m who a k c).size = 5 := by simp [exR]
@[go_sem] theorem exR_0 (op n m who : Int) (a : Option Addr) (k c : Nat) : (exR op n m who a k c)[0]? = some (I op) := rfl
@[go_sem] theorem exR_1 (op n m who : Int) (a : Option Addr) (k c : Nat) : (exR op n m who a k c)[1]? = some (I n) := rfl
@[go_sem] theorem exR_2 (op n m who : Int) (a : Option Addr) (k c : Nat) : (exR op n m who a k c)[2]? = some (I m) := rfl
@[go_sem] theorem exR_3 (op n m who : Int) (a : Option Addr) (k c : Nat) : (exR op n m who a k c)[3]? = some (I who) := rfl
@[go_sem] theorem exR_4 (op n m who : Int) (a : Option Addr) (k c : Nat) : (exR op n m who a k c)[4]? = some (.slice a k c) := rfl
@[go_sem] theorem yiu (op n m who : Int) (a : Option Addr) (k c : Nat) (h : 0 < (exR op n m who a k c).size) : (exR op n m who a k c)[0]'h = I op := by simp [exR]
@[go_sem] theorem yiv (op n m who : Int) (a : Option Addr) (k c : Nat) (h : 1 < (exR op n m who a k c).size) : (exR op n m who a k c)[1]'h = I n := by simp [exR]
@[go_sem] theorem yiw (op n m who : Int) (a : Option Addr) (k c : Nat) (h : 2 < (exR op n m who a k c).size) : (exR op n m who a k c)[2]'h = I m := by simp [exR]
@[go_sem] theorem yix (op n m who : Int) (a : Option Addr) (k c : Nat) (h : 3 < (exR op n m who a k c).size) : (exR op n m who a k c)[3]'h = I who := by simp [exR]
@[go_sem] theorem yiy (op n m who : Int) (a : Option Addr) (k c : Nat) (h : 4 < (exR op n m who a k c).size) : (exR op n m who a k c)[4]'h = .slice a k c := by simp [exR]
@[go_sem] theorem yg0 (op n m who : Int) (a : Option Addr) (k c : Nat) : zai (exR op n m who a k c) = true := by
 simp only [zai, exR, List.all_toArray, List.all_cons, List.all_nil, Bool.and_true]
 rfl
@[go_sem] theorem ygz (op n m who : Int) (a : Option Addr) (k c : Nat) : sub (exR op n m who a k c) 0 5 = exR op n m who a k c := rfl
@[go_sem] theorem z5h (w : World) (b o n c : Nat) (q : IntKind) (i : Int) (h0 : 0 ≤ i) (h1 : i < n) : (Instr.indexAt 30 (.slice (some ⟨b, o, none⟩) n c) (.int q i)).run Tryz.prog w = .ok (.pointer (some ⟨b, o + i.toNat * 5, none⟩)) w :=
 zbh w Tryz.underlying30 (fun w => (by kernel_rfl : (sizeOf 32).run Tryz.prog w = .ok 5 w)) (.mk b o n c) q i h0 h1
def Eff.row : Eff → Array Value | .mk op n m who a c l => exR op n m who a l.length c
theorem Eff.row_mk (op n m who : Int) (a : Option Addr) (c : Nat) (l : List Eff) : (Eff.mk op n m who a c l).row = exR op n m who a l.length c := rfl
theorem Eff.row_is (e : Eff) : e.row = exR e.op e.n e.m e.who e.a e.subs.length e.c := by cases e; rfl
def SubsAt (w : World) (lim : Nat → Prop) (a : Option Addr) (c : Nat) (l : List Eff) : Prop := l = [] ∨ ∃ b o, a = some ⟨b, o, none⟩ ∧ lim b ∧ RowsV w (.mk b o l.length c) 5 (l.map Eff.row)
inductive Eff.In (w : World) (lim : Nat → Prop) : Eff → Prop
 | mk {op n m who : Int} {a : Option Addr} {c : Nat} {subs : List Eff} (R : SubsAt w lim a c subs) (hs : ∀ e, e ∈ subs → Eff.In w lim e) : Eff.In w lim (.mk op n m who a c subs)
theorem SubsAt.kept {w w' : World} {lim : Nat → Prop} {own : Nat → Prop} {a : Option Addr} {c : Nat} {l : List Eff} (h : SubsAt w lim a c l) (ho : ∀ k, own k → ¬ lim k) (K : Kept own w w') : SubsAt w' lim a c l := by
 rcases h with h | ⟨b, o, h1, h2, h3⟩
 · exact Or.inl h
 · exact Or.inr ⟨b, o, h1, h2, h3.kept K (fun h => ho _ h h2)⟩
theorem Eff.In.kept {w w' : World} {lim : Nat → Prop} {own : Nat → Prop} {e : Eff} (h : Eff.In w lim e) (ho : ∀ k, own k → ¬ lim k) (K : Kept own w w') : Eff.In w' lim e := by
 induction h with
 | mk R hs ih => exact .mk (R.kept ho K) ih
theorem Eff.In.grow {w w' : World} {lim : Nat → Prop} {e : Eff} (h : Eff.In w lim e) (g : Grow w w') : Eff.In w' lim e := h.kept (own := fun _ => False) (fun _ h => h.elim) (g.kept _)
theorem Eff.In.at' {w : World} {lim : Nat → Prop} {op n m who : Int} {a : Option Addr} {c : Nat} {l : List Eff} (h : Eff.In w lim (.mk op n m who a c l)) : SubsAt w lim a c l := by cases h; assumption
theorem Eff.In.sub {w : World} {lim : Nat → Prop} {op n m who : Int} {a : Option Addr} {c : Nat} {l : List Eff} {x : Eff} (h : Eff.In w lim (.mk op n m who a c l)) (hx : x ∈ l) : Eff.In w lim x := by cases h with | mk R hs => exact hs x hx
theorem SubsAt.get {w : World} {lim : Nat → Prop} {b o c : Nat} {l : List Eff} (h : SubsAt w lim (some ⟨b, o, none⟩) c l) (k : Nat) (hk : k < l.length) :
 b < w.heap.size ∧ o + k * 5 + 5 ≤ (w.blk b).size ∧ sub (w.blk b) (o + k * 5) 5 = (l[k]).row ∧ l.length ≤ c := by
 rcases h with h | ⟨b', o', h1, h2, h3⟩
 · rw [h] at hk; cases hk
 · injection h1 with h1
   injection h1 with h1 h2'
   subst h1; subst h2'
   have := h3.at (by omega) (i := k) (x := (l[k]).row) (by simp [hk])
   exact ⟨this.1, this.2.1, this.2.2, h3.cap⟩
theorem SubsAt.addr {w : World} {lim : Nat → Prop} {a : Option Addr} {c : Nat} {l : List Eff} (h : SubsAt w lim a c l) (hl : 0 < l.length) : ∃ b o, a = some ⟨b, o, none⟩ ∧ lim b := by
 rcases h with h | ⟨b, o, h1, h2, _⟩
 · rw [h] at hl; cases hl
 · exact ⟨b, o, h1, h2⟩
end Go.Proofs.YthfalocligkamaaGreatDoor
namespace Go.Proofs.YthfalocligkamaaGreatDoor
open Go Go.RowKit Go.ChangeShapes Go.WideShapes Go.ChangeAt
theorem zw1 {α : Type} {P : Nat → α → Prop} : ∀ (n : Nat), (∀ i, i < n → ∃ x, P i x) → ∃ l : List α, l.length = n ∧ ∀ i (hi : i < l.length), P i l[i]
 | 0, _ => ⟨[], rfl, fun i hi => absurd hi (Nat.not_lt_zero _)⟩
 | n + 1, h => by
   obtain ⟨l, hl, hp⟩ := zw1 n (fun i hi => h i (by omega))
   obtain ⟨x, hx⟩ := h n (by omega)
   refine ⟨l ++ [x], by simp [hl], fun i hi => ?_⟩
   by_cases hi' : i < l.length
   · rw [List.getElem_append_left hi']; exact hp i hi'
   · have : i = l.length := by simp at hi; omega
     subst this
     simpa [hl] using hx
theorem zwe {cs : List Value} {v0 v1 v2 v3 v4 : Value} (hl : cs.length = 5) (h0 : List.take 1 (List.drop 0 cs) = [v0]) (h1 : List.take 1 (List.drop 1 cs) = [v1]) (h2 : List.take 1 (List.drop 2 cs) = [v2]) (h3 : List.take 1 (List.drop 3 cs) = [v3]) (h4 : List.take 1 (List.drop 4 cs) = [v4]) : cs = [v0, v1, v2, v3, v4] := by
 match cs, hl with
 | [a, b, c, d, e], _ =>
   simp only [List.drop_zero, List.drop_succ_cons, List.take_succ_cons, List.take_zero, List.cons.injEq, and_true] at h0 h1 h2 h3 h4
   rw [h0, h1, h2, h3, h4]
theorem yhv {z : Int} (h : (Lit.int .i64 z).wf = true) : z ≤ 9223372036854775807 := by
 have h2 : IntKind.i64.min ≤ z ∧ z ≤ 9223372036854775807 := by simpa [Lit.wf] using h
 exact h2.2
set_option maxRecDepth 100000 in
theorem z5d {H : Type} {enc : TypeId × Value → H} {W : World} {sp : Nat → Bool} : ∀ (N fuel : Nat), fuel ≤ N → ∀ (cs : List Value) (x : DataW H × List MemPlace), DataW.trod enc Tryz.prog W 0 sp true fuel 32 cs = some x →
 ∃ e : Eff, cs = e.row.toList ∧ e.In W (fun b => b < W.heap.size)
 | 0, fuel, hf, cs, x, h => by
   obtain rfl : fuel = 0 := by omega
   simp [DataW.trod] at h
 | N + 1, fuel, hf, cs, x, h => by
   obtain ⟨xs, n, hn, _, hlen, hxl, hx⟩ := DataW.trod_struct Tryz.underlying32 h
   have c5 : Tryz.prog.cellsOf 32 = 5 := by kernel_rfl
   have c1 : Tryz.prog.cellsOf 3 = 1 := by kernel_rfl
   have cS : Tryz.prog.cellsOf 30 = 1 := by kernel_rfl
   have hxl5 : xs.length = 5 := hxl
   rw [c5] at hlen
   have g0 : DataW.trod enc Tryz.prog W 0 sp true n 3 (List.take (Tryz.prog.cellsOf 3) (List.drop 0 cs)) = xs[0]? := hx 0 _ rfl
   have g1 : DataW.trod enc Tryz.prog W 0 sp true n 3 (List.take (Tryz.prog.cellsOf 3) (List.drop 1 cs)) = xs[1]? := hx 1 _ rfl
   have g2 : DataW.trod enc Tryz.prog W 0 sp true n 3 (List.take (Tryz.prog.cellsOf 3) (List.drop 2 cs)) = xs[2]? := hx 2 _ rfl
   have g3 : DataW.trod enc Tryz.prog W 0 sp true n 3 (List.take (Tryz.prog.cellsOf 3) (List.drop 3 cs)) = xs[3]? := hx 3 _ rfl
   have g4 : DataW.trod enc Tryz.prog W 0 sp true n 30 (List.take (Tryz.prog.cellsOf 30) (List.drop 4 cs)) = xs[4]? := hx 4 _ rfl
   rw [c1, List.getElem?_eq_getElem (by omega)] at g0 g1 g2 g3
   rw [cS, List.getElem?_eq_getElem (by omega)] at g4
   obtain ⟨op, k0, _⟩ := DataW.trod_int Tryz.underlying3 g0
   obtain ⟨nn, k1, _⟩ := DataW.trod_int Tryz.underlying3 g1
   obtain ⟨m, k2, _⟩ := DataW.trod_int Tryz.underlying3 g2
   obtain ⟨who, k3, _⟩ := DataW.trod_int Tryz.underlying3 g3
   rcases DataW.trod_slice Tryz.underlying30 g4 with ⟨k4, _⟩ | ⟨a, ln, c, el, _, q, hq, k4, _, _, hnc, hm, hel, hat, _⟩
   · exact ⟨.mk op nn m who none 0 [], zwe hlen k0 k1 k2 k3 k4, .mk (Or.inl rfl) (fun e he => by cases he)⟩
   · have key : ∀ i, i < ln → ∃ e : Eff, (∃ cs', W.cells? 0 (a.add (i * 5)) 5 = some cs' ∧ cs' = e.row.toList) ∧ e.In W (fun b => b < W.heap.size) := fun i hi => by
      have h1 := hat i hi
      rw [c5, List.getElem?_eq_getElem (by omega), Option.bind_eq_some_iff] at h1
      obtain ⟨cs', hcs, ht⟩ := h1
      obtain ⟨e, he1, he2⟩ := z5d N q (by omega) cs' _ ht
      exact ⟨e, ⟨cs', hcs, he1⟩, he2⟩
     obtain ⟨l, hl, hp⟩ := zw1 ln key
     refine ⟨.mk op nn m who a c l, ?_, .mk ?_ (fun e he => ?_)⟩
     · rw [Eff.row_mk, hl]
       exact zwe hlen k0 k1 k2 k3 k4
     · by_cases h0 : l = []
       · exact Or.inl h0
       · have hl0 : 0 < l.length := List.length_pos_iff.2 h0
         have hc : ∀ i (hi : i < l.length) j, j < 5 → W.cell? ((a.add (i * 5)).add j) = (l[i]).row[j]? := fun i hi j hj => by
          obtain ⟨⟨cs', hcs, he⟩, _⟩ := hp i hi
          obtain ⟨_, _, h3⟩ := World.cells?_some hcs
          rw [h3 j hj, he, Array.getElem?_toList]
         have hspot : a = ⟨a.block, a.off, none⟩ := by
          have h1 := hc 0 hl0 0 (by omega)
          rw [Nat.zero_mul, show (a.add 0).add 0 = a from rfl] at h1
          have hs5 : (l[0]).row.size = 5 := by rw [Eff.row_is]; rfl
          rw [Array.getElem?_eq_getElem (by omega)] at h1
          unfold World.cell? at h1
          split at h1
          · split at h1
            · cases h1
            · rename_i hsp
              obtain ⟨ab, ao, asp⟩ := a
              cases asp with
              | none => rfl
              | some z => exact absurd rfl hsp
          · cases h1
         have hrows : RowsV W (.mk a.block a.off l.length c) 5 (l.map Eff.row) := by
          refine ⟨by simp [Sl.n], by show l.length ≤ c; omega, fun x hx => ?_, fun i j x hx hj => ?_⟩
          · obtain ⟨e, _, rfl⟩ := List.mem_map.1 hx
            rw [Eff.row_is]; rfl
          · have hi : i < l.length := by have := (List.getElem?_eq_some_iff.1 hx).1; simpa using this
            have hx2 : x = (l[i]).row := by simpa [hi] using hx.symm
            rw [hx2, ← hc i hi j hj]
            rw [hspot, zgs, zgs]
            rfl
         refine Or.inr ⟨a.block, a.off, congrArg some hspot, ?_, hrows⟩
         have h1 := hrows.cell 0 0 _ (by rw [List.getElem?_map, List.getElem?_eq_getElem hl0]; rfl) (by omega)
         have hs5 : (l[0]).row.size = 5 := by rw [Eff.row_is]; rfl
         rw [Array.getElem?_eq_getElem (by omega)] at h1
         exact (zbd h1).1
     · obtain ⟨i, hi, rfl⟩ := List.mem_iff_getElem.1 he
       exact (hp i hi).2
def zeo (op n m who : Int) (a : Option Addr) (k c : Nat) (x : Ctx) : Array Value := #[I op, I n, I m, I who, .slice a k c, I x.src, I x.ctl, I x.kind, I x.tgt]
set_option maxRecDepth 100000 in
theorem z2r {H : Type} {enc : TypeId × Value → H} {W : World} {r : Reach} {b0 : Nat} {sp : Nat → Bool} {v : Value} {d : DataW H} {p : List MemPlace} (hv : Value.okWide Tryz.prog W r b0 34 v)
 (h : DataW.Trod enc Tryz.prog W 0 sp true 34 v d p) : ∃ (e : Eff) (x : Ctx), v = .agg (zeo e.op e.n e.m e.who e.a e.subs.length e.c x) ∧ e.In W (fun b => b < W.heap.size) ∧ x.tgt ≤ 9223372036854775807 := by
 unfold Value.okWide at hv
 rw [Tryz.underlying34] at hv
 obtain ⟨cs, rfl, -, -⟩ := hv
 obtain ⟨fuel, h⟩ := h
 have h' : DataW.trod enc Tryz.prog W 0 sp true fuel 34 cs.toList = some (d, p) := h
 obtain ⟨xs, n, hn, _, hlen, hxl, hx⟩ := DataW.trod_struct Tryz.underlying34 h'
 have c9 : Tryz.prog.cellsOf 34 = 9 := by kernel_rfl
 have c5 : Tryz.prog.cellsOf 32 = 5 := by kernel_rfl
 have c1 : Tryz.prog.cellsOf 3 = 1 := by kernel_rfl
 have hxl5 : xs.length = 5 := hxl
 rw [c9] at hlen
 have g0 : DataW.trod enc Tryz.prog W 0 sp true n 32 (List.take (Tryz.prog.cellsOf 32) (List.drop 0 cs.toList)) = xs[0]? := hx 0 _ rfl
 have g1 : DataW.trod enc Tryz.prog W 0 sp true n 3 (List.take (Tryz.prog.cellsOf 3) (List.drop 5 cs.toList)) = xs[1]? := hx 1 _ rfl
 have g2 : DataW.trod enc Tryz.prog W 0 sp true n 3 (List.take (Tryz.prog.cellsOf 3) (List.drop 6 cs.toList)) = xs[2]? := hx 2 _ rfl
 have g3 : DataW.trod enc Tryz.prog W 0 sp true n 3 (List.take (Tryz.prog.cellsOf 3) (List.drop 7 cs.toList)) = xs[3]? := hx 3 _ rfl
 have g4 : DataW.trod enc Tryz.prog W 0 sp true n 3 (List.take (Tryz.prog.cellsOf 3) (List.drop 8 cs.toList)) = xs[4]? := hx 4 _ rfl
 rw [c1, List.getElem?_eq_getElem (by omega)] at g1 g2 g3 g4
 rw [c5, List.getElem?_eq_getElem (by omega)] at g0
 obtain ⟨e, he, hin⟩ := z5d _ n (Nat.le_refl n) _ _ g0
 obtain ⟨z1, k1, _⟩ := DataW.trod_int Tryz.underlying3 g1
 obtain ⟨z2, k2, _⟩ := DataW.trod_int Tryz.underlying3 g2
 obtain ⟨z3, k3, _⟩ := DataW.trod_int Tryz.underlying3 g3
 obtain ⟨z4, k4, _, hw⟩ := DataW.trod_int Tryz.underlying3 g4
 refine ⟨e, ⟨z1, z2, z3, z4⟩, ?_, hin, yhv hw⟩
 rw [Eff.row_is] at he
 have hcs : cs.toList = (zeo e.op e.n e.m e.who e.a e.subs.length e.c ⟨z1, z2, z3, z4⟩).toList := by
  generalize cs.toList = L at *
  match L, hlen with
  | [v0, v1, v2, v3, v4, v5, v6, v7, v8], _ =>
    simp only [List.drop_zero, List.drop_succ_cons, List.take_succ_cons, List.take_zero, List.cons.injEq, and_true] at he k1 k2 k3 k4
    have he' : [v0, v1, v2, v3, v4] = [I e.op, I e.n, I e.m, I e.who, Value.slice e.a e.subs.length e.c] := he
    simp only [List.cons.injEq, and_true] at he'
    obtain ⟨rfl, rfl, rfl, rfl, rfl⟩ := he'
    rw [k1, k2, k3, k4]; rfl
 exact congrArg Value.agg (Array.ext' (by simpa using hcs))
end Go.Proofs.YthfalocligkamaaGreatDoor
namespace Go.Proofs.YthfalocligkamaaGreatDoor
end Go.Proofs.YthfalocligkamaaGreatDoor
namespace Go.Proofs.YthfalocligkamaaGreatDoor
open Go Go.RowKit Go.Shelf
theorem zp8 (w : World) (t : Int) : Calls Tryz.prog 28 #[.int .i64 t] w fun e w' => e = .returned (.tuple #[.int .i64 (if t = -1 ∨ t = -2 then -1 - t else 0), .bool (decide (t = -1 ∨ t = -2))]) ∧ Grow w w' := by
 by_cases h1 : t = -1
 · subst h1
   go_enter Tryz.func28, Tryz.ntmps28
   go_wp2_with fail
   go_ret2
   exact ⟨rfl, grI⟩
 by_cases h2 : t = -2
 · subst h2
   go_enter Tryz.func28, Tryz.ntmps28
   go_wp2_with fail
   go_ret2
   exact ⟨rfl, grI⟩
 · have b1 : (t != -1) = true := by simpa using h1
   have b2 : (t != -2) = true := by simpa using h2
   rw [if_neg (by omega), decide_eq_false (by omega)]
   clear h1 h2
   go_enter Tryz.func28, Tryz.ntmps28
   go_wp2_with fail
   go_ret2
   exact ⟨rfl, grI⟩
theorem zp7 (w : World) (t : Int) (h : t ≤ 9223372036854775807) : Calls Tryz.prog 29 #[.int .i64 t] w fun e w' => e = .returned (.tuple #[.int .i64 (if t ≤ 0 then 0 else t - 1), .bool (decide (0 < t))]) ∧ Grow w w' := by
 by_cases h1 : t ≤ 0
 · have b1 : decide (t ≤ 0) = true := by simpa using h1
   rw [if_pos h1, decide_eq_false (by omega)]
   go_enter Tryz.func29, Tryz.ntmps29
   go_wp2_with fail
   go_ret2
   exact ⟨rfl, grI⟩
 · have b1 : decide (t ≤ 0) = false := by simpa using h1
   have b2 : wrap64 (t - 1) = t - 1 := by unfold wrap64; omega
   rw [if_neg h1, decide_eq_true (by omega)]
   have HB := Lib.hid b2
   clear b2
   go_enter Tryz.func29, Tryz.ntmps29
   go_wp2_with fail
   go_ret2
   exact ⟨by rw [← HB.out]; rfl, grI⟩
theorem zgr (w : World) (p : Int) : Calls Tryz.prog 27 #[.int .i64 p] w fun e w' => e = .returned (.bool (decide (p = 0 ∨ p = 1))) ∧ Grow w w' := by
 by_cases h0 : p = 0
 · subst h0
   go_enter Tryz.func27, Tryz.ntmps27
   go_wp2_with fail
   go_ret
   exact ⟨rfl, grI⟩
 by_cases h1 : p = 1
 · subst h1
   go_enter Tryz.func27, Tryz.ntmps27
   go_wp2_with fail
   go_ret
   exact ⟨rfl, grI⟩
 · have b0 : (p == 0) = false := by simpa using h0
   have b1 : (p == 1) = false := by simpa using h1
   rw [decide_eq_false (by omega)]
   clear h0 h1
   go_enter Tryz.func27, Tryz.ntmps27
   go_wp2_with fail
   go_ret
   exact ⟨rfl, grI⟩
theorem zan {W w2 : World} {x : Ext} (h : Grow (W.plus x) w2) : Grow W w2 := by
 obtain ⟨y, rfl⟩ := h
 exact grI
structure Boxd (W : World) (q : Nat) (cs : Array Value) : Prop where
 blk : W.blk q = cs
 cell : ∀ i, W.cell? ⟨q, i, none⟩ = cs[i]?
 lt : q < W.heap.size
theorem Boxd.new (w : World) (cs : Array Value) (t : TypeId) : Boxd (w.alloc (.cells cs t)) w.heap.size cs := ⟨by rw [zeq, if_pos rfl], fun i => by rw [zbu, if_pos rfl], by rw [zaa]; omega⟩
theorem Boxd.new' {w : World} {q : Nat} {cs : Array Value} {t : TypeId} (hq : q = w.heap.size) : Boxd (w.alloc (.cells cs t)) q cs := by subst hq; exact Boxd.new w cs t
theorem Boxd.grow {W W' : World} {q : Nat} {cs : Array Value} (h : Boxd W q cs) (g : Grow W W') : Boxd W' q cs := by
 obtain ⟨x, rfl⟩ := g
 exact ⟨by rw [ze0, if_pos h.lt]; exact h.blk, fun i => by rw [zd6, if_pos h.lt]; exact h.cell i, Nat.lt_of_lt_of_le h.lt (Grow.size ⟨x, rfl⟩)⟩
theorem Boxd.kept {own : Nat → Prop} {W W' : World} {q : Nat} {cs : Array Value} (h : Boxd W q cs) (K : Kept own W W') (hq : ¬ own q) : Boxd W' q cs :=
 ⟨by rw [K.blk q h.lt hq]; exact h.blk, fun i => by rw [K.cell q i h.lt hq]; exact h.cell i, Nat.lt_of_lt_of_le h.lt K.size⟩
def doR (b : Nat) (x : Ctx) : Array Value := #[.pointer (some ⟨b, 0, none⟩), I x.src, I x.ctl, I x.kind, I x.tgt]
def ctR (x : Ctx) : Array Value := #[I x.src, I x.ctl, I x.kind, I x.tgt]
@[go_sem] theorem yd4 (b : Nat) (x : Ctx) : (doR b x).size = 5 := by simp [doR]
@[go_sem] theorem doR_0 (b : Nat) (x : Ctx) : (doR b x)[0]? = some (.pointer (some ⟨b, 0, none⟩)) := rfl
@[go_sem] theorem doR_1 (b : Nat) (x : Ctx) : (doR b x)[1]? = some (I x.src) := rfl
@[go_sem] theorem doR_2 (b : Nat) (x : Ctx) : (doR b x)[2]? = some (I x.ctl) := rfl
@[go_sem] theorem doR_3 (b : Nat) (x : Ctx) : (doR b x)[3]? = some (I x.kind) := rfl
@[go_sem] theorem doR_4 (b : Nat) (x : Ctx) : (doR b x)[4]? = some (I x.tgt) := rfl
@[go_sem] theorem yib (b : Nat) (x : Ctx) (h : 0 < (doR b x).size) : (doR b x)[0]'h = .pointer (some ⟨b, 0, none⟩) := by simp [doR]
@[go_sem] theorem yic (b : Nat) (x : Ctx) (h : 1 < (doR b x).size) : (doR b x)[1]'h = I x.src := by simp [doR]
@[go_sem] theorem yid (b : Nat) (x : Ctx) (h : 2 < (doR b x).size) : (doR b x)[2]'h = I x.ctl := by simp [doR]
@[go_sem] theorem yie (b : Nat) (x : Ctx) (h : 3 < (doR b x).size) : (doR b x)[3]'h = I x.kind := by simp [doR]
@[go_sem] theorem yif (b : Nat) (x : Ctx) (h : 4 < (doR b x).size) : (doR b x)[4]'h = I x.tgt := by simp [doR]
@[go_sem] theorem ygm (b : Nat) (x : Ctx) : zai (doR b x) = true := by
 simp only [zai, doR, List.all_toArray, List.all_cons, List.all_nil, Bool.and_true]
 rfl
@[go_sem] theorem ygk (b : Nat) (x : Ctx) : sub (doR b x) 0 5 = doR b x := rfl
@[go_sem] theorem ygl (b : Nat) (x : Ctx) : sub (doR b x) 1 4 = ctR x := rfl
@[go_sem] theorem ygn (b : Nat) (x : Ctx) (t : Int) : (doR b x).setIfInBounds 4 (.int .i64 t) = doR b { x with tgt := t } := rfl
@[go_sem] theorem yd1 (x : Ctx) : (ctR x).size = 4 := by simp [ctR]
@[go_sem] theorem ctR_0 (x : Ctx) : (ctR x)[0]? = some (I x.src) := rfl
@[go_sem] theorem ctR_1 (x : Ctx) : (ctR x)[1]? = some (I x.ctl) := rfl
@[go_sem] theorem ctR_2 (x : Ctx) : (ctR x)[2]? = some (I x.kind) := rfl
@[go_sem] theorem ctR_3 (x : Ctx) : (ctR x)[3]? = some (I x.tgt) := rfl
@[go_sem] theorem yh4 (x : Ctx) (h : 0 < (ctR x).size) : (ctR x)[0]'h = I x.src := by simp [ctR]
@[go_sem] theorem yh5 (x : Ctx) (h : 1 < (ctR x).size) : (ctR x)[1]'h = I x.ctl := by simp [ctR]
@[go_sem] theorem yh6 (x : Ctx) (h : 2 < (ctR x).size) : (ctR x)[2]'h = I x.kind := by simp [ctR]
@[go_sem] theorem yh7 (x : Ctx) (h : 3 < (ctR x).size) : (ctR x)[3]'h = I x.tgt := by simp [ctR]
@[go_sem] theorem ygh (x : Ctx) : zai (ctR x) = true := by
 simp only [zai, ctR, List.all_toArray, List.all_cons, List.all_nil, Bool.and_true]
 rfl
@[go_sem] theorem ygg (x : Ctx) : sub (ctR x) 0 4 = ctR x := rfl
@[go_sem ↓] theorem ycg (ρ : Operand → Value) (dst : Option Tmp) (x : Operand) (ty : TypeId) (pos : String) (after : Array Edge) (guard : Option (Nat × Bool)) :
 execOp ρ { dst, op := .load 70 x, type := ty, pos, after, guard } = za3 70 (ρ x) := rfl
@[go_sem ↓] theorem yac (ρ : Operand → Value) (dst : Option Tmp) (x y : Operand) (ty : TypeId) (pos : String) (after : Array Edge) (guard : Option (Nat × Bool)) :
 execOp ρ { dst, op := .store 70 x y, type := ty, pos, after, guard } = zaz 70 (ρ x) (ρ y) := rfl
@[go_sem] theorem z25 (w : World) (b o : Nat) (h : o + 5 ≤ (w.blk b).size) : (za3 70 (.pointer (some ⟨b, o, none⟩))).run Tryz.prog w = .ok (.value (.agg (sub (w.blk b) o 5))) w :=
 zaw w b o 70 5 (by kernel_rfl) (by kernel_rfl) h (by omega)
@[go_sem] theorem zz7 (w : World) (b : Nat) (cs : Array Value) (h : (w.blk b).size = 5) (hc : cs.size = 5) (h1 : zai cs = true) (hf : w.free b = true) : (zaz 70 (.pointer (some ⟨b, 0, none⟩)) (.agg cs)).run Tryz.prog w = .ok .skip (w.setRow b cs) :=
 zax w b 70 5 _ (by kernel_rfl) h hc (by omega) hf h1
@[go_sem ↓] theorem ye3 (ρ : Operand → Value) (dst : Option Tmp) (x : Operand) (ty : TypeId) (pos : String) (after : Array Edge) (guard : Option (Nat × Bool)) :
 execOp ρ { dst, op := .load 39 x, type := ty, pos, after, guard } = za3 39 (ρ x) := rfl
@[go_sem ↓] theorem ydv (ρ : Operand → Value) (dst : Option Tmp) (x y : Operand) (ty : TypeId) (pos : String) (after : Array Edge) (guard : Option (Nat × Bool)) :
 execOp ρ { dst, op := .store 39 x y, type := ty, pos, after, guard } = zaz 39 (ρ x) (ρ y) := rfl
@[go_sem] theorem zny (w : World) (b o : Nat) (h : o + 4 ≤ (w.blk b).size) : (za3 39 (.pointer (some ⟨b, o, none⟩))).run Tryz.prog w = .ok (.value (.agg (sub (w.blk b) o 4))) w :=
 zaw w b o 39 4 (by kernel_rfl) (by kernel_rfl) h (by omega)
@[go_sem] theorem z3b (w : World) (b : Nat) (cs : Array Value) (h : (w.blk b).size = 4) (hc : cs.size = 4) (h1 : zai cs = true) (hf : w.free b = true) : (zaz 39 (.pointer (some ⟨b, 0, none⟩)) (.agg cs)).run Tryz.prog w = .ok .skip (w.setRow b cs) :=
 zax w b 39 4 _ (by kernel_rfl) h hc (by omega) hf h1
@[go_sem ↓] theorem z9q (ρ : Operand → Value) (dst : Option Tmp) (parts : Array (Nat × Operand)) (ty : TypeId) (pos : String) (after : Array Edge) (guard : Option (Nat × Bool)) :
 execOp ρ { dst, op := .build 70 parts, type := ty, pos, after, guard } = za0 70 (parts.map fun (i, x) => (i, ρ x)) := rfl
@[go_sem] theorem zzs (w : World) (b : Nat) (x : Ctx) : (za0 70 #[(0, .pointer (some ⟨b, 0, none⟩)), (1, .agg (ctR x))]).run Tryz.prog w = .ok (.value (.agg (doR b x))) w := by kernel_rfl
@[go_sem ↓] theorem z40 (ρ : Operand → Value) (dst : Option Tmp) (n : Nat) (parts : Array (Nat × Operand)) (ty : TypeId) (pos : String) (after : Array Edge) (guard : Option (Nat × Bool)) :
 execOp ρ { dst, op := .buildSlice 23 n parts, type := ty, pos, after, guard } = zdh 23 n (parts.map fun (i, x) => (i, ρ x)) := rfl
@[go_sem] theorem z8b (w : World) (a : Int) : (zdh 23 1 #[(0, .int .i64 a)]).run Tryz.prog w = .ok (.value (.slice (some ⟨w.heap.size, 0, none⟩) 1 1)) (w.alloc (.cells (cellsOf [a]) 3)) := by kernel_rfl
@[go_sem] theorem z8c (w : World) (a c : Int) : (zdh 23 2 #[(0, .int .i64 a), (1, .int .i64 c)]).run Tryz.prog w = .ok (.value (.slice (some ⟨w.heap.size, 0, none⟩) 2 2)) (w.alloc (.cells (cellsOf [a, c]) 3)) := by kernel_rfl
theorem zha {w w' : World} {q n : Nat} {l : List Int} (hq : q = w.heap.size) (hn : l.length = n) (g : Grow (w.alloc (.cells (cellsOf l) 3)) w') : Ints w' (.mk q 0 n n) l := by
 refine Ints.grow ⟨hn.symm, Nat.le_refl _, fun i hi => ?_⟩ g
 show World.cell? _ ⟨q, 0 + i, none⟩ = _
 rw [Nat.zero_add, zbu, if_pos hq, za5 _ _ hi]
@[go_sem] theorem zzw (w : World) (V : SV) (num : Nat → Int) : (Instr.field 29 (.agg (stA V num)) 0).run Tryz.prog w = .ok V.objs.val w := by kernel_rfl
@[go_sem] theorem zxy (w : World) (V : SV) (num : Nat → Int) : (Instr.field 29 (.agg (stA V num)) 1).run Tryz.prog w = .ok (.agg (lsA V)) w := by kernel_rfl
set_option maxRecDepth 100000 in
@[go_sem] theorem zxz (w : World) (V : SV) (q : IntKind) (i : Int) (h0 : 0 ≤ i) (h1 : i < 11) : (Instr.index 24 (.agg (lsA V)) (.int q i)).run Tryz.prog w = .ok (V.list i.toNat).val w := by
 have : i = 0 ∨ i = 1 ∨ i = 2 ∨ i = 3 ∨ i = 4 ∨ i = 5 ∨ i = 6 ∨ i = 7 ∨ i = 8 ∨ i = 9 ∨ i = 10 := by omega
 clear h0 h1
 rcases this with rfl | rfl | rfl | rfl | rfl | rfl | rfl | rfl | rfl | rfl | rfl <;> exact rfl
end Go.Proofs.YthfalocligkamaaGreatDoor
