/- A law's row out of its walk: arguments that are states, and what the package's variables hold. -/
import Derived.Test.YthfalocligkamaaGreatDoorMSt
import Derived.Test.YthfalocligkamaaGreatDoorRows
import Derived.ProofKit
import Derived.OpenShut
import Derived.Carry
import Derived.LaidMore
import Derived.Stop.Joined
import Derived.Test.YthfalocligkamaaGreatDoorMPutN
namespace Go.Proofs.YthfalocligkamaaGreatDoor
open Go Go.RowKit Go.ChangeShapes Go.WideShapes Go.ChangeAt
theorem z2w : ownKnob Tryz.prog.godebug = none := by kernel_rfl
theorem zna : laidOutB Tryz.prog = true := by kernel_rfl
section
variable {H : Type} {enc : TypeId × Value → H} {P : Program}
theorem zho (hl : laidOutB P = true) {W W' : World} (hb : Below W.heap.size W W') : ∀ (ts : List TypeId) (vs : List Value) (ds : List (DataW H)) (ps : List MemPlace),
 (∀ t, t ∈ ts → P.readableRec t = true ∧ t < P.types.size) → (∀ x, x ∈ ps → x.block < W.heap.size) →
 DataW.TrodAll enc P W 0 (fun _ => true) true ts vs ds ps → DataW.TrodAll enc P W' 0 (fun b => decide (b < W.heap.size)) true ts vs ds ps
 | [], [], [], _, _, _, h => h
 | [], [], _ :: _, _, _, _, h => h.elim
 | [], _ :: _, _, _, _, _, h => h.elim
 | _ :: _, [], _, _, _, _, h => h.elim
 | _ :: _, _ :: _, [], _, _, _, h => h.elim
 | t :: ts, v :: vs, d :: ds, ps, hr, hlt, h => by
   obtain ⟨p, q, h1, h2, rfl⟩ := h
   exact ⟨p, q, Below.trod hl (hr t (by simp)).1 (hr t (by simp)).2 h1 hb (fun x hx => hlt x (by simp [hx])),
    zho hl hb ts vs ds q (fun t' ht => hr t' (by simp [ht])) (fun x hx => hlt x (by simp [hx])) h2, rfl⟩
theorem z2h {f : Func} {s : ChangeSpec} {W W' : World} {args : Array Value} {ds gs : List (DataW H)} {before : List MemPlace} {b : TypeId} (hl : laidOutB P = true)
 (hW : DataW.Whole enc P f.params.toList s.vars false W args.toList ds gs before) (hv : s.vars = []) (hrt : f.resultTypes = #[b]) (hub : P.underlying b = some .bool)
 (hr : (f.params.toList.all fun t => P.readableRec t && decide (t < P.types.size)) = true)
 (h1 : (s.fn H (ds ++ gs)).results = [.lit (.bool true)]) (h2 : (s.fn H (ds ++ gs)).args = ds) (h3 : (s.fn H (ds ++ gs)).vars = []) (hg : Below W.heap.size W W') :
 s.post enc P f false true false false W args (.bool true) W' := by
 have hlt := hW.lt
 have hW' := hW
 obtain ⟨p, q, hA, hV, rfl, _, _⟩ := hW
 refine ⟨ds, gs, _, [], p, [], hW', ?_, ?_, ?_, World.keptBut_mono (fun _ h => h.elim) (hg.frame fun _ => False), fun h => by cases h⟩
 · rw [h1, hrt]
   exact trodAll_mk1 ⟨1, by simp [DataW.trod, Value.cells, hub]⟩
 · rw [h2]
   exact zho hl hg _ _ _ _ (fun t ht => by have := List.all_eq_true.1 hr t ht; simpa using this) (fun x hx => hlt x (by simp [hx])) hA
 · rw [hv, h3]; exact rfl
def ycx : Value → Sl
 | .slice (some a) n c => .mk a.block a.off n c
 | _ => .nil
def z73 : Value → Int
 | .int _ k => k
 | _ => 0
theorem zkq {W : World} {r : Reach} {b0 : Nat} {u e : TypeId} {v : Value} (hu : P.underlying u = some (.slice e)) (h : Cell.okWide P W r b0 u v) : v = (ycx v).val ∧ (ycx v).n ≤ (ycx v).c := by
 have h' : Cell.ok P W r b0 u v := by
  unfold Cell.okWide at h
  rw [hu] at h
  cases v <;> exact h
 unfold Cell.ok at h'
 rw [hu] at h'
 cases v with
 | slice a n c =>
   cases a with
   | none => cases n <;> cases c <;> first | exact h'.elim | exact ⟨rfl, Nat.le_refl _⟩
   | some a =>
     obtain ⟨ab, ao, asp⟩ := a
     obtain ⟨h3, _, _, h4, _⟩ := h'
     simp only at h4
     subst h4
     exact ⟨rfl, h3⟩
 | _ => exact h'.elim
theorem z0k {W : World} {r : Reach} {b0 : Nat} {u : TypeId} {v : Value} (hu : P.underlying u = some (.int .i64)) (h : Cell.okWide P W r b0 u v) : v = I (z73 v) := by
 have h' : Cell.ok P W r b0 u v := by
  unfold Cell.okWide at h
  rw [hu] at h
  cases v <;> exact h
 unfold Cell.ok at h'
 rw [hu] at h'
 cases v with
 | int k n => obtain ⟨rfl, _⟩ := h'; rfl
 | _ => exact h'.elim
def zke (W : World) (b k : Nat) : Int := z73 ((W.cell? ⟨b, k, none⟩).getD default)
theorem zqv {W : World} {b k : Nat} {z : Int} (h : W.cell? ⟨b, k, none⟩ = some (I z)) : W.cell? ⟨b, k, none⟩ = some (I (zke W b k)) := by
 rw [zke, h]; rfl
theorem z7m {W : World} {s : Sl} (hc : s.n ≤ s.c) (h : ∀ i, i < s.n → ∃ z, W.cell? ⟨s.b, s.o + i, none⟩ = some (I z)) : Ints W s ((List.range s.n).map fun i => zke W s.b (s.o + i)) := by
 refine ⟨by simp, hc, fun i hi => ?_⟩
 have hi' : i < s.n := by simpa using hi
 obtain ⟨z, hz⟩ := h i hi'
 rw [zqv hz]
 simp [gt, hi']
theorem z79 {W : World} {s : Sl} {k : Nat} (hc : s.n ≤ s.c) (h : ∀ i j, i < s.n → j < k → ∃ z, W.cell? ⟨s.b, s.o + i * k + j, none⟩ = some (I z)) :
 Rows' W s k ((List.range s.n).map fun i => (List.range k).map fun j => zke W s.b (s.o + i * k + j)) := by
 have row : ∀ i, i < s.n → rowAt ((List.range s.n).map fun i => (List.range k).map fun j => zke W s.b (s.o + i * k + j)) i = (List.range k).map fun j => zke W s.b (s.o + i * k + j) := by
  intro i hi; simp [rowAt, hi]
 refine ⟨by simp, hc, fun i hi => ?_, fun i j hi hj => ?_⟩
 · have hi' : i < s.n := by simpa using hi
   rw [row i hi']; simp
 · have hi' : i < s.n := by simpa using hi
   obtain ⟨z, hz⟩ := h i j hi' hj
   rw [zqv hz, row i hi']
   simp [gt, hj]
theorem zoe {s : Sl} {a : Addr} {n c : Nat} (h : s.val = .slice (some a) n c) : s = .mk a.block a.off n c ∧ a = ⟨a.block, a.off, none⟩ := by
 cases s with
 | nil => cases h
 | mk b o n' c' => injection h with h1 h2 h3; injection h1 with h1; subst h1; subst h2; subst h3; exact ⟨rfl, rfl⟩
theorem zy0 {s : Sl} (h : s.val = .slice none 0 0) : s = .nil := by
 cases s with
 | nil => rfl
 | mk => injection h with h1; cases h1
end
theorem zgs (b o i : Nat) : (⟨b, o, none⟩ : Addr).add i = ⟨b, o + i, none⟩ := by
 unfold Addr.add
 split <;> simp_all
theorem zyy {H : Type} {enc : TypeId × Value → H} {W : World} {sp : Nat → Bool} {fuel : Nat} {s : Sl} {x : DataW H × List MemPlace} (hc : s.n ≤ s.c) (h : DataW.trod enc Tryz.prog W 0 sp true fuel 23 [s.val] = some x) :
 Ints W s ((List.range s.n).map fun i => zke W s.b (s.o + i)) := by
 refine z7m hc fun i hi => ?_
 rcases open_ints Tryz.underlying23 Tryz.underlying3 (by kernel_rfl) h with ⟨h1, _⟩ | ⟨a, n, c, zs, h1, _, hnc, _, hlen, _, hcell, _⟩
 · rw [zy0 (List.cons.inj h1).1] at hi; cases hi
 · obtain ⟨rfl, ha⟩ := zoe (List.cons.inj h1).1
   have hi' : i < n := hi
   have := hcell i (by rw [hlen]; split <;> omega)
   rw [ha] at this
   rw [zgs] at this
   exact ⟨_, this⟩
theorem zyz {H : Type} {enc : TypeId × Value → H} {W : World} {sp : Nat → Bool} {fuel : Nat} {s : Sl} {x : DataW H × List MemPlace} (hc : s.n ≤ s.c) (h : DataW.trod enc Tryz.prog W 0 sp true fuel 22 [s.val] = some x) :
 Rows' W s 18 ((List.range s.n).map fun i => (List.range 18).map fun j => zke W s.b (s.o + i * 18 + j)) := by
 refine z79 hc fun i j hi hj => ?_
 rcases DataW.trod_slice Tryz.underlying22 h with ⟨h1, _⟩ | ⟨a, n, c, el, _, m, _, h1, _, _, _, _, hlen, hel, _⟩
 · rw [zy0 (List.cons.inj h1).1] at hi; cases hi
 · obtain ⟨rfl, ha⟩ := zoe (List.cons.inj h1).1
   have hi' : i < n := hi
   have he := hel i hi'
   have c18 : Tryz.prog.cellsOf 57 = 18 := by kernel_rfl
   have c1 : Tryz.prog.cellsOf 3 = 1 := by kernel_rfl
   rw [c18, List.getElem?_eq_getElem (by omega), Option.bind_eq_some_iff] at he
   obtain ⟨cs, hcs, ht⟩ := he
   obtain ⟨_, hl, hat⟩ := World.cells?_some hcs
   obtain ⟨xs, m', _, _, _, hxl, hx⟩ := DataW.trod_array Tryz.underlying57 ht
   have hxj := hx j hj
   rw [List.getElem?_eq_getElem (by omega), c1, Nat.mul_one] at hxj
   obtain ⟨z, hz, _⟩ := DataW.trod_int Tryz.underlying3 hxj
   refine ⟨z, ?_⟩
   have h2 := hat j hj
   have h3 : cs[j]? = some (I z) := by
    have := congrArg (fun l : List Value => l[0]?) hz
    simpa [List.getElem?_take, List.getElem?_drop] using this
   rw [ha, h3] at h2
   rw [zgs, zgs] at h2
   exact h2
def svOf (cs : Array Value) : SV := ⟨ycx (cs.getD 0 undef), fun z => ycx (cs.getD (1 + z) undef)⟩
def stOf (W : World) (V : SV) (num : Nat → Int) : St :=
 ⟨(List.range V.objs.n).map fun i => (List.range 18).map fun j => zke W V.objs.b (V.objs.o + i * 18 + j),
  fun z => (List.range (V.list z).n).map fun i => zke W (V.list z).b ((V.list z).o + i), num⟩
set_option maxRecDepth 100000 in
theorem zp4 {W : World} {r : Reach} {b0 : Nat} {v : Value} (h : Value.okWide Tryz.prog W r b0 29 v) :
 ∃ (V : SV) (num : Nat → Int), v = .agg (stA V num) ∧ V.objs.n ≤ V.objs.c ∧ ∀ z, z < 11 → (V.list z).n ≤ (V.list z).c := by
 unfold Value.okWide at h
 rw [Tryz.underlying29] at h
 obtain ⟨cs, rfl, hsz, ts, hts, _, hc⟩ := h
 have h37 : Tryz.prog.cellsOf 29 = 37 := by kernel_rfl
 rw [h37] at hsz
 have ht : Tryz.prog.cellTypes Tryz.prog.depth 29 = some (22 :: (List.replicate 11 23 ++ List.replicate 25 3)) := by kernel_rfl
 obtain rfl : _ = ts := Option.some.inj (ht.symm.trans hts)
 have at' : ∀ i (hi : i < cs.size), cs.getD i undef = cs[i] := fun i hi => by simp [Array.getD, hi]
 have c0 : Cell.okWide Tryz.prog W r b0 22 (cs.getD 0 undef) := by
  obtain ⟨u, hu, hk⟩ := hc 0 cs[0] (by simp [hsz])
  rw [at' 0 (by omega)]
  have : u = 22 := by simpa using hu.symm
  subst this; exact hk
 have c1 : ∀ z, z < 11 → Cell.okWide Tryz.prog W r b0 23 (cs.getD (1 + z) undef) := fun z hz => by
  obtain ⟨u, hu, hk⟩ := hc (1 + z) cs[1 + z] (by simp)
  rw [at' (1 + z) (by omega)]
  have : u = 23 := by
   have e : (1 + z) % (22 :: (List.replicate 11 23 ++ List.replicate 25 3)).length = z + 1 := by simp; omega
   rw [e, List.getElem?_cons_succ, List.getElem?_append_left (by simpa using hz), List.getElem?_replicate, if_pos hz] at hu
   exact (Option.some.inj hu).symm
  subst this; exact hk
 have c2 : ∀ i, i < 25 → Cell.okWide Tryz.prog W r b0 3 (cs.getD (12 + i) undef) := fun i hi => by
  obtain ⟨u, hu, hk⟩ := hc (12 + i) cs[12 + i] (by simp)
  rw [at' (12 + i) (by omega)]
  have : u = 3 := by
   have e : (12 + i) % (22 :: (List.replicate 11 23 ++ List.replicate 25 3)).length = (11 + i) + 1 := by simp; omega
   rw [e, List.getElem?_cons_succ, List.getElem?_append_right (by simp), List.length_replicate, List.getElem?_replicate, if_pos (by omega)] at hu
   exact (Option.some.inj hu).symm
  subst this; exact hk
 have k0 := zkq Tryz.underlying22 c0
 have k1 := fun z hz => zkq Tryz.underlying23 (c1 z hz)
 have k2 := fun i hi => z0k Tryz.underlying3 (c2 i hi)
 refine ⟨svOf cs, fun i => z73 (cs.getD (12 + i) undef), congrArg Value.agg ?_, k0.2, fun z hz => (k1 z hz).2⟩
 apply Array.ext
 · rw [zcm, hsz]
 · intro i hi _
   rw [← at' i hi]
   by_cases h0 : i = 0
   · subst h0; rw [zyt]; exact k0.1
   · by_cases h1 : i < 12
     · obtain ⟨z, rfl⟩ : ∃ z, i = 1 + z := ⟨i - 1, by omega⟩
       rw [zys _ _ _ _ (by omega)]; exact (k1 z (by omega)).1
     · obtain ⟨z, rfl⟩ : ∃ z, i = 12 + z := ⟨i - 12, by omega⟩
       rw [z4a]; exact k2 z (by omega)
set_option maxRecDepth 100000 in
theorem zs3 {H : Type} {enc : TypeId × Value → H} {W : World} {r : Reach} {b0 : Nat} {sp : Nat → Bool} {v : Value} {d : DataW H} {p : List MemPlace} (hv : Value.okWide Tryz.prog W r b0 29 v)
 (h : DataW.Trod enc Tryz.prog W 0 sp true 29 v d p) : ∃ (V : SV) (S : St), v = .agg (stA V S.num) ∧ RepSt W V S := by
 obtain ⟨V, num, rfl, hc0, hc1⟩ := zp4 hv
 refine ⟨V, stOf W V num, rfl, ?_⟩
 obtain ⟨fuel, h⟩ := h
 obtain ⟨xs, n, _, _, _, hxl, hx⟩ := DataW.trod_struct Tryz.underlying29 h
 have s1 : Tryz.prog.cellsOf 22 = 1 := by kernel_rfl
 have s2 : Tryz.prog.cellsOf 24 = 11 := by kernel_rfl
 have s3 : Tryz.prog.cellsOf 23 = 1 := by kernel_rfl
 have f0 := hx 0 _ rfl
 have f1 := hx 1 _ rfl
 have g0 : DataW.trod enc Tryz.prog W 0 sp true n 22 (List.take (Tryz.prog.cellsOf 22) (List.drop 0 (stA V num).toList)) = xs[0]? := f0
 have g1 : DataW.trod enc Tryz.prog W 0 sp true n 24 (List.take (Tryz.prog.cellsOf 24) (List.drop 1 (stA V num).toList)) = xs[1]? := f1
 have h4 : xs.length = 4 := hxl
 have e0 : List.take 1 (List.drop 0 (stA V num).toList) = [V.objs.val] := rfl
 have e1 : ∀ z, z < 11 → List.take 1 (List.drop z (List.take 11 (List.drop 1 (stA V num).toList))) = [(V.list z).val] := by
  intro z hz
  have : z = 0 ∨ z = 1 ∨ z = 2 ∨ z = 3 ∨ z = 4 ∨ z = 5 ∨ z = 6 ∨ z = 7 ∨ z = 8 ∨ z = 9 ∨ z = 10 := by omega
  rcases this with h | h | h | h | h | h | h | h | h | h | h <;> (subst h; rfl)
 rw [s1, e0, List.getElem?_eq_getElem (by omega)] at g0
 rw [s2, List.getElem?_eq_getElem (by omega)] at g1
 obtain ⟨ys, m, _, _, _, hyl, hy⟩ := DataW.trod_array Tryz.underlying24 g1
 refine ⟨zyz hc0 g0, fun z hz => ?_⟩
 have hz' := hy z hz
 rw [s3, Nat.mul_one, e1 z hz, List.getElem?_eq_getElem (by omega)] at hz'
 exact zyy (hc1 z hz) hz'
theorem zgy {cs : Array Value} {l : List Int} (hl : cs.size = l.length) (h : ∀ i, i < l.length → cs.toList[i]? = some (I (gt l i))) : cs = cellsOf l := by
 apply Array.ext_getElem?
 intro i
 by_cases hi : i < l.length
 · rw [← Array.getElem?_toList, h i hi, za5 l i hi]
 · rw [Array.getElem?_eq_none (by omega), Array.getElem?_eq_none (by rw [zb8]; omega)]
section
variable {H : Type} {enc : TypeId × Value → H} {P : Program}
theorem zw2 {W : World} {sp : Nat → Bool} {held : Bool} {fuel : Nat} {e : TypeId} {cs : List Value} {i : Nat} {x : DataW H × List MemPlace} {k : Int} (he : P.underlying e = some (.int .i64))
 (h : DataW.trod enc P W 0 sp held fuel e ((cs.drop i).take 1) = some x) (hx : x.1 = .lit (.int .i64 k)) : cs[i]? = some (I k) := by
 obtain ⟨z, hz, rfl, _⟩ := DataW.trod_int he h
 have := congrArg (fun l : List Value => l[0]?) hz
 simp only [DataW.lit.injEq, Lit.int.injEq, true_and] at hx
 subst hx
 simpa [List.getElem?_take, List.getElem?_drop] using this
theorem zkz {W : World} {sp : Nat → Bool} {held : Bool} {fuel n : Nat} {t e : TypeId} {cs : Array Value} {p : List MemPlace} {l : List Int} (ht : P.underlying t = some (.array n e)) (he : P.underlying e = some (.int .i64))
 (hn : P.cellsOf t = n) (h1 : P.cellsOf e = 1) (hl : l.length = n)
 (h : DataW.trod enc P W 0 sp held fuel t cs.toList = some (.agg (l.map fun k => .lit (.int .i64 k)), p)) : cs = cellsOf l := by
 obtain ⟨xs, m, _, hx, hsz, hxl, hel⟩ := DataW.trod_array ht h
 have hx' : l.map (fun k => (DataW.lit (Lit.int .i64 k) : DataW H)) = xs.map (·.1) := by
  have := congrArg Prod.fst hx
  simpa using this
 refine zgy (by rw [hl, ← hn]; simpa using hsz) fun i hi => ?_
 have hi2 := hel i (by omega)
 rw [h1, Nat.mul_one, List.getElem?_eq_getElem (by omega)] at hi2
 refine zw2 he hi2 ?_
 have := congrArg (fun z : List (DataW H) => z[i]?) hx'
 simp only [List.getElem?_map, List.getElem?_eq_getElem hi, List.getElem?_eq_getElem (show i < xs.length by omega), Option.map_some, Option.some.injEq] at this
 rw [← this]
 simp [gt, hi]
theorem zqu {W : World} {sp : Nat → Bool} {held : Bool} {fuel : Nat} {t e : TypeId} {fa fb : Field} {cs : Array Value} {p : List MemPlace} {a b : Int} (ht : P.underlying t = some (.struct #[fa, fb])) (hfa : fa.type = e) (hfb : fb.type = e)
 (h0 : fa.offset = 0) (h01 : fb.offset = 1) (he : P.underlying e = some (.int .i64)) (hn : P.cellsOf t = 2) (h1 : P.cellsOf e = 1)
 (h : DataW.trod enc P W 0 sp held fuel t cs.toList = some (.agg [.lit (.int .i64 a), .lit (.int .i64 b)], p)) : cs = cellsOf [a, b] := by
 obtain ⟨xs, m, _, hx, hsz, hxl, hel⟩ := DataW.trod_struct ht h
 have e0 := hel 0 fa rfl
 have e1 := hel 1 fb rfl
 rw [hfa, h0, h1] at e0
 rw [hfb, h01, h1] at e1
 match xs, hxl, hx, e0, e1 with
 | [x, y], _, hx, e0, e1 =>
   simp only [List.map_cons, List.map_nil, Prod.mk.injEq, DataW.agg.injEq, List.cons.injEq, and_true] at hx
   refine zgy (by rw [← Array.length_toList, hsz, hn]; rfl) fun i hi => ?_
   have : i = 0 ∨ i = 1 := by simp at hi; omega
   rcases this with rfl | rfl
   · exact zw2 he e0 hx.1.1.symm
   · exact zw2 he e1 hx.1.2.symm
theorem zmn {W : World} {n : String} {g : Nat} {cs : Array Value} (hg : P.globalNamed n = some g) (h : W.var? P n = some cs) : W.blk g = cs ∧ g < W.heap.size := by
 simp only [World.var?, hg, Option.bind_some] at h
 split at h <;> simp_all [World.blk]
 rename_i h2
 exact (Array.getElem?_eq_some_iff.1 h2).1
end
end Go.Proofs.YthfalocligkamaaGreatDoor
namespace Go.Proofs.YthfalocligkamaaGreatDoor
open Go Go.RowKit Go.ChangeShapes Go.WideShapes Go.ChangeAt
def zw0 : List (String × DataW Unit) := Rows.execAsksRow.laid
set_option maxRecDepth 100000 in
theorem zga {W : World} (h : laidMetH Tryz.prog zw0 W) : GlobE W (fun k => W.heap.size ≤ k) := by
 rw [MakeChecks.laidMetH_plain _ _ _ (by kernel_rfl)] at h
 obtain ⟨ps, ⟨g0, t0, cs0, f0, p0, q0, hg0, ht0, hv0, hd0, ⟨g1, t1, cs1, f1, p1, q1, hg1, ht1, hv1, hd1, ⟨g2, t2, cs2, f2, p2, q2, hg2, ht2, hv2, hd2, ⟨g3, t3, cs3, f3, p3, q3, hg3, ht3, hv3, hd3, _, _⟩, _⟩, _⟩, _⟩, _, _⟩ := h
 obtain rfl : g0 = 3 := Option.some.inj (hg0.symm.trans (by kernel_rfl))
 obtain rfl : g1 = 2 := Option.some.inj (hg1.symm.trans (by kernel_rfl))
 obtain rfl : g2 = 0 := Option.some.inj (hg2.symm.trans (by kernel_rfl))
 obtain rfl : g3 = 1 := Option.some.inj (hg3.symm.trans (by kernel_rfl))
 obtain rfl : t0 = 125 := Option.some.inj (ht0.symm.trans (by kernel_rfl))
 obtain rfl : t1 = 125 := Option.some.inj (ht1.symm.trans (by kernel_rfl))
 obtain rfl : t2 = 25 := Option.some.inj (ht2.symm.trans (by kernel_rfl))
 obtain rfl : t3 = 25 := Option.some.inj (ht3.symm.trans (by kernel_rfl))
 have z0 := zqu Tryz.underlying125 rfl rfl rfl rfl Tryz.underlying3 (by kernel_rfl) (by kernel_rfl) hd0
 have z1 := zqu Tryz.underlying125 rfl rfl rfl rfl Tryz.underlying3 (by kernel_rfl) (by kernel_rfl) hd1
 have z2 := zkz (l := [4, 5, 6, 7, 8, 9, 10, 11, 12]) Tryz.underlying25 Tryz.underlying3 (by kernel_rfl) (by kernel_rfl) rfl hd2
 have z3 := zkz (l := [4, 5, 6, 7, 8, 9, 10, 11, 12]) Tryz.underlying25 Tryz.underlying3 (by kernel_rfl) (by kernel_rfl) rfl hd3
 have b0 := zmn hg0 hv0
 have b1 := zmn hg1 hv1
 have b2 := zmn hg2 hv2
 have b3 := zmn hg3 hv3
 exact ⟨⟨by omega, by rw [b2.1, z2], by rw [b1.1, z1], by rw [b0.1, z0]⟩, b3.2, by rw [b3.1, z3]; rfl, by omega, by omega, by omega, by omega⟩
end Go.Proofs.YthfalocligkamaaGreatDoor
