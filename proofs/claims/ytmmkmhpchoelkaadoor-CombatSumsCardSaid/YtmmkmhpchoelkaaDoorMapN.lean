/-
  A map of numbers of the call's own.
-/
import Derived.Test.YtmmkmhpchoelkaaDoorKept
import Derived.Maps.OwnOps
import Derived.Maps.Views
import Derived.WalkSmall
namespace Go.Proofs.YtmmkmhpchoelkaaDoor
open Go Go.RowKit Go.Maps

/-- Block b is a map of at most n entries that holds these numbers (0 where nothing was put). -/
def MapN (w : World) (b n : Nat) (f : Int → Int) : Prop :=
  ∃ D : DataW Unit, w.ownsMap Tryd.prog 3 (plainElem Tryd.prog 3) b n D ∧ IsMap D ∧ ∀ k : Int, D.atKey (.int .i64 k) (.lit (.int .i64 0)) = .lit (.int .i64 (f k))
theorem MapN.made (w : World) : MapN (w.alloc (.map #[] 0)) w.heap.size 0 (fun _ => 0) :=
  ⟨.map [], World.ownsMap_made _ _ _ _, ⟨[], rfl⟩, fun _ => rfl⟩
theorem MapN.block {w w' : World} {b n : Nat} {f : Int → Int} (h : MapN w b n f) (e : w'.heap[b]? = w.heap[b]?) : MapN w' b n f := by
  obtain ⟨D, ⟨es, c, h1, h2⟩, h3⟩ := h
  exact ⟨D, ⟨es, c, e.trans h1, h2⟩, h3⟩
theorem MapN.lt {w : World} {b n : Nat} {f : Int → Int} (h : MapN w b n f) : b < w.heap.size := by
  obtain ⟨D, ⟨es, c, h1, h2⟩, h3⟩ := h
  exact (Array.getElem?_eq_some_iff.1 h1).1
theorem MapN.grow {w w' : World} {b n : Nat} {f : Int → Int} (h : MapN w b n f) (g : Grow w w') : MapN w' b n f := by
  have := h.lt
  obtain ⟨x, rfl⟩ := g
  exact h.block (plus_heap w x b this)
theorem MapN.cell {w : World} {b n o : Nat} {f : Int → Int} (h : MapN w b n f) : w.cell? ⟨b, o, none⟩ = none := by
  obtain ⟨D, ⟨es, c, h1, h2⟩, h3⟩ := h
  simp [World.cell?, h1]
theorem keyed_int : Keyed Tryd.prog 3 := int_keyed Tryd.underlying3
theorem zero_int (w : World) : (zeroValue 3).run Tryd.prog w = .ok (.int .i64 0) w := by kernel_rfl
theorem wf64 {k : Int} (h : -9223372036854775808 ≤ k ∧ k ≤ 9223372036854775807) : (Lit.int .i64 k).wf = true := by
  have h1 := wrap64_wf k
  rwa [IntWalk.wrap64_in k h] at h1
set_option maxRecDepth 100000 in
theorem MapN.look {w : World} {b n : Nat} {f : Int → Int} (h : MapN w b n f) (k : Int) (hk : -9223372036854775808 ≤ k ∧ k ≤ 9223372036854775807) : (Instr.lookup 50 (.map (some b)) (.int .i64 k) false).run Tryd.prog w = .ok (.int .i64 (f k)) w := by
  obtain ⟨D, h1, _, h3⟩ := h
  obtain ⟨c, hrun, hat, _⟩ := h1.lookup_int keyed_int Tryd.underlying50 Tryd.underlying3 (zero_int w) (keyOf_int_mk Tryd.underlying3 (wf64 hk))
  rw [h3 k] at hat
  have : c = f k := by
    injection hat with e1
    injection e1 with e2 e3
    exact e3.symm
  rw [hrun, this]
section
variable {w : World}
/-- A look-up in such a map. -/
theorem wpList_lookupN {ops : Array Oper} {rest : List Oper} {o : Oper} {a : Act} {Q : Exit → Act → World → Prop} (hg : o.guard = none) (m x : Operand) (hop : o.op = Op.lookup 50 m x false)
    (b n : Nat) (f : Int → Int) (hm : a.eval m = .map (some b)) (h : MapN w b n f) (k : Int) (hx : a.eval x = .int .i64 k) (hk : -9223372036854775808 ≤ k ∧ k ≤ 9223372036854775807)
    (hK : wpList Tryd.prog ops Q rest (a.put o.dst (.int .i64 (f k))) w) : wpList Tryd.prog ops Q (o :: rest) a w := by
  obtain ⟨D, h1, _, h3⟩ := h
  refine wpList_lookup_own_int w hg m x 50 hop 3 3 .i64 keyed_int Tryd.underlying50 Tryd.underlying3 (zero_int w) b n D hm h1 _ (.int .i64 k) hx (keyOf_int_mk Tryd.underlying3 (wf64 hk)) fun c hat _ => ?_
  rw [h3 k] at hat
  have : c = f k := by
    injection hat with e1
    injection e1 with e2 e3
    exact e3.symm
  rw [this]; exact hK
/-- A store into such a map. -/
theorem wpList_updateN {ops : Array Oper} {rest : List Oper} {o : Oper} {a : Act} {Q : Exit → Act → World → Prop} (hg : o.guard = none) (m x v : Operand) (hop : o.op = Op.mapUpdate 50 m x v)
    (b n : Nat) (f : Int → Int) (hm : a.eval m = .map (some b)) (h : MapN w b n f) (hn : n < maxLen) (k c : Int) (hx : a.eval x = .int .i64 k) (hv : a.eval v = .int .i64 c) (hk : -9223372036854775808 ≤ k ∧ k ≤ 9223372036854775807) (hc : -9223372036854775808 ≤ c ∧ c ≤ 9223372036854775807)
    (hK : ∀ w', MapN w' b (n + 1) (fun y => if y = k then c else f y) → w.grownBy w' (some b) → wpList Tryd.prog ops Q rest (a.put o.dst undef) w') : wpList Tryd.prog ops Q (o :: rest) a w := by
  obtain ⟨D, h1, h2, h3⟩ := h
  have hkey := keyOf_int_mk (P := Tryd.prog) Tryd.underlying3 (wf64 hk)
  refine wpList_mapUpdate_own w hg m x v 50 hop 3 3 keyed_int Tryd.underlying50 _ b n D hm h1 hn _ _ (.int .i64 k) hx hv hkey (.lit (.int .i64 c)) [] (plainElem_int Tryd.underlying3 (wf64 hc)) fun w' r1 r2 => ?_
  refine hK w' ⟨_, r1, ?_, fun y => ?_⟩ r2
  · obtain ⟨es, rfl⟩ := h2
    exact ⟨_, rfl⟩
  · show _ = DataW.lit (Lit.int .i64 (if y = k then c else f y))
    by_cases e : y = k
    · subst e
      rw [if_pos rfl]
      exact atKey_put_same h2 (keyed_int.key hkey) _ _
    · rw [if_neg e, atKey_put_other (by intro h; injection h with h1 h2; exact e h2)]
      exact h3 y
end
end Go.Proofs.YtmmkmhpchoelkaaDoor
