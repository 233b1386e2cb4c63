/-
  The document's cards, in plain words.
-/
import Derived.Test.YtnjclibennadcaaGreatDoorMRef08c
namespace Go.Proofs.YtnjclibennadcaaGreatDoor
open Go Go.RowKit

inductive AbsIs (w : World) (n : Nat) : List AbV → List AbF → Prop
  | nil : AbsIs w n [] []
  | cons {a : AbV} {d : AbF} {l : List AbV} {m : List AbF} : AbIs w n a d → AbsIs w n l m → AbsIs w n (a :: l) (d :: m)
/-- A card stands so in memory, in full. -/
structure CardIs (w : World) (n : Nat) (c : CdV) (d : CardF) : Prop where
  kind : c.kind = d.kind
  col : c.col = d.col
  fast : c.fast = d.fast
  cost : [c.c0, c.c1, c.c2, c.c3, c.c4, c.c5] = d.cost
  pw : c.pw = d.pw
  tf : c.tf = d.tf
  says : c.says = d.says
  abs : ∃ l : List AbV, RowsV w c.abs 14 (l.map AbV.arr) ∧ (l = [] ∨ n ≤ c.abs.b) ∧ AbsIs w n l d.abs
def giveF (n c : Int) : AbF := ⟨6, noCost, true, 0, ⟨15, n, c, 0, []⟩⟩
def oneCost (c : Nat) (p : Int) (k : Int) : List Int := (noCost.set c p).set 5 k
def enterF (e : EfF) : AbF := ⟨2, noCost, false, 0, e⟩
def eight : List Int := [1, 1, 2, 2, 3, 3, 4, 4]
def eightT : List Int := [1, 2, 2, 3, 3, 4, 4, 5]
def eightW : List Int := [1, 2, 4, 8, 16, 32, 64, 128]
/-- The creature of a colour, number k. -/
def beastF (c k : Nat) : CardF :=
  ⟨1, c, false, oneCost c (if 3 < k then 2 else 1) k, gt eight k + (if c = 3 then 1 else 0), gt eightT k + (if c = 4 then 1 else 0), gt eightW k,
    match c with
    | 0 => [enterF ⟨2, (k : Int) + 1, 0, 0, []⟩]
    | 1 => if k % 2 = 0 then [] else [enterF ⟨4, 1, 0, 0, []⟩]
    | 2 => [⟨3, noCost, false, 0, ⟨3, gt eight k, 0, 1, []⟩⟩]
    | 3 => [⟨1, noCost.set 3 1, true, 3, ⟨1, 1, 0, 2, []⟩⟩]
    | _ => [⟨1, noCost.set 4 1, false, 0, ⟨10, 1, 1, 3, []⟩⟩]⟩
def spellF (c k : Nat) : CardF := let r := magicL.getD (5 * k + c) []; ⟨2, c, k % 2 == 0, oneCost c 1 k, 0, 0, 0, [⟨0, noCost, false, gt r 0, effL (r.drop 1)⟩]⟩
def relicF (c k : Nat) : CardF := ⟨3, c, false, oneCost c 1 ((k : Int) + 1), 0, 0, 0, [abL (relicL.getD (5 * k + c) [])]⟩
def specialF (i : Nat) : CardF := let r := specialL.getD i []; ⟨gt r 0, 5, gt r 2 == 1, noCost.set 5 (gt r 1), gt r 3, gt r 4, gt r 5, abL (r.drop 6) :: (if i = 8 then [giveF 2 5] else [])⟩
/-- The document's card. -/
def cardF (n : Nat) : CardF :=
  if n < 5 then ⟨0, n, false, noCost, 0, 0, 0, [giveF 1 n]⟩
  else if n < 10 then ⟨0, 5, false, noCost, 0, 0, 0, [enterF ⟨3, (n : Int) - 4, 0, 0, []⟩, giveF (gt [1, 1, 2, 2, 3] (n - 5)) 5]⟩
  else if n < 50 then beastF ((n - 10) % 5) ((n - 10) / 5)
  else if n < 80 then spellF ((n - 50) % 5) ((n - 50) / 5)
  else if n < 100 then relicF ((n - 80) % 5) ((n - 80) / 5)
  else if n < 112 then specialF (n - 100)
  else ⟨1, 5, false, noCost, gt eight (n - 112), gt eight (n - 112), (n : Int) % 2, []⟩
/-! ### What is asked of a card's numbers, and of its statics -/
def AbF.n (a : AbF) : AbN := if a.wh = 5 then ⟨5, a.ef.n, gt (a.ef.subs.getD 0 []) 0, gt (a.ef.subs.getD 0 []) 1, gt (a.ef.subs.getD 0 []) 2⟩ else ⟨a.wh, 0, 0, 0, 0⟩
def agreeB (d : CardF) (e : CardN) : Bool :=
  d.kind == e.kind && d.pw == e.pw && d.tf == e.tf && d.says == e.says && decide (d.abs.length = e.abs.length) &&
    (List.range d.abs.length).all fun i => let a := d.abs.getD i ⟨0, [], false, 0, ⟨0, 0, 0, 0, []⟩⟩; let b := e.abs.getD i ⟨0, 0, 0, 0, 0⟩
      a.wh == b.wh && (a.wh != 5 || (decide (a.ef.subs.length = 1) && a.ef.n == b.grp && gt (a.ef.subs.getD 0 []) 0 == b.op && gt (a.ef.subs.getD 0 []) 1 == b.n && gt (a.ef.subs.getD 0 []) 2 == b.m))
theorem agree_all : ∀ n, n < 120 → agreeB (cardF n) (cardN n) = true := by decide +kernel
/-- The same of an ability. -/
def agreeA (a : AbF) (b : AbN) : Bool := a.wh == b.wh && (a.wh != 5 || (decide (a.ef.subs.length = 1) && a.ef.n == b.grp && gt (a.ef.subs.getD 0 []) 0 == b.op && gt (a.ef.subs.getD 0 []) 1 == b.n && gt (a.ef.subs.getD 0 []) 2 == b.m))
theorem AbIs.ok {w : World} {n : Nat} {a : AbV} {d : AbF} {e : AbN} (h : AbIs w n a d) (ha : agreeA d e = true) : AbOk w n a e := by
  unfold agreeA at ha
  simp only [Bool.and_eq_true, beq_iff_eq, Bool.or_eq_true, bne_iff_ne, ne_eq, decide_eq_true_eq] at ha
  obtain ⟨h1, h2⟩ := ha
  by_cases h5 : d.wh = 5
  · rcases h2 with h2 | ⟨⟨⟨⟨g1, g2⟩, g3⟩, g4⟩, g5⟩
    · exact absurd h5 h2
    · obtain ⟨r, hr⟩ := List.length_eq_one_iff.1 g1
      rw [hr] at g3 g4 g5
      have hs := h.ef.subs
      rw [hr] at hs
      have hb : 0 < a.ef.subs.n := by rw [hs.len]; simp
      refine AbOk.stat (who := gt r 3) (s := .nil) (h.wh.trans h1) (h.ef.amt.trans g2) (h.ef.low _ (Sl.owns_b hb)) ?_
      rw [← g3, ← g4, ← g5]
      exact hs
  · exact AbOk.of (h.wh.trans h1) (by rw [← h1]; exact h5)
theorem AbsIs.len {w : World} {n : Nat} {l : List AbV} {m : List AbF} (h : AbsIs w n l m) : l.length = m.length := by
  induction h with
  | nil => rfl
  | cons _ _ ih => simp [ih]
theorem AbsIs.ok {w : World} {n : Nat} {l : List AbV} {m : List AbF} (h : AbsIs w n l m) : ∀ e : List AbN, m.length = e.length → (∀ i, i < m.length → agreeA (m.getD i ⟨0, [], false, 0, ⟨0, 0, 0, 0, []⟩⟩) (e.getD i ⟨0, 0, 0, 0, 0⟩) = true) → AbsOk w n l e := by
  induction h with
  | nil => intro e he _; cases e with | nil => exact .nil | cons => simp at he
  | cons ha _ ih =>
    intro e he hag
    cases e with
    | nil => simp at he
    | cons b e =>
      refine .cons (ha.ok (hag 0 (by simp))) (ih e (by simpa using he) (fun i hi => ?_))
      exact hag (i + 1) (by simpa using hi)
theorem CardIs.ok {w : World} {n : Nat} {c : CdV} {k : Nat} (hk : k < 120) (h : CardIs w n c (cardF k)) : CardOk w n c (cardN k) := by
  have ha := agree_all k hk
  unfold agreeB at ha
  simp only [Bool.and_eq_true, beq_iff_eq, decide_eq_true_eq] at ha
  obtain ⟨⟨⟨⟨⟨h1, h2⟩, h3⟩, h4⟩, h5⟩, h6⟩ := ha
  obtain ⟨l, l1, l2, l3⟩ := h.abs
  refine ⟨h.kind.trans h1, h.pw.trans h2, h.tf.trans h3, h.says.trans h4, l, l1, l2, l3.ok _ h5 (fun i hi => ?_)⟩
  exact List.all_eq_true.1 h6 i (List.mem_range.2 hi)
end Go.Proofs.YtnjclibennadcaaGreatDoor
