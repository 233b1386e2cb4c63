/-
  What an emitter's Shuffle does, as plain functions.
-/
import Derived.Test.YtgobdndjemicjaaGreatDoorMAc1
namespace Go.Proofs.YtgobdndjemicjaaGreatDoor
open Go Go.RowKit Go.Shelf

def swapL (l : List Int) (i k : Nat) : List Int := (l.set i (gt l k)).set k (gt l i)
/-- The numbers below n. -/
def idL (n : Nat) : List Int := (List.range n).map fun (i : Nat) => (i : Int)
/-- The numbers below n, behind so many swaps. -/
def ordS (d : List Int) (c n : Nat) : Nat → List Int
  | 0 => idL n
  | t + 1 => swapL (ordS d c n t) (n - 1 - t) (belowI (gt d (c + t)) ((n - 1 - t : Nat) + 1)).toNat
/-- An order of n, the cursor behind it, an error's number. -/
def ordR (d : List Int) (c : Int) (n : Nat) : List Int × Int × Int :=
  if 4096 < d.length then ([], 0, 19) else if 400 < n ∨ c < 0 then ([], 0, 1) else if max ((d.length : Int) - c) 0 < max (n : Int) 1 - 1 then ([], 0, 13) else (ordS d c.toNat n (n - 1), c + (max (n : Int) 1 - 1), 0)
def hideN (was p : Int) : Int := bits BinOp.andNot .i64 was (bits BinOp.and .i64 p 3)
/-- The event by which nobody knows an object. -/
def hideEv (S : St) (id p : Int) : List (List Int) :=
  if id < 0 ∨ (S.objs.length : Int) ≤ id then []
  else if hideN (gt (rowAt S.objs id.toNat) 17) p = gt (rowAt S.objs id.toNat) 17 then []
  else [[2, id, 17, gt (rowAt S.objs id.toNat) 17, hideN (gt (rowAt S.objs id.toNat) 17) p, 0]]
def Em.shufAt (E : Em) (z : Nat) (id at' : Int) : Em := if idxL (E.now.list z) id = at' then E else E.do1 [1, id, z, idxL (E.now.list z) id, z, at']
def Em.shufTo (E : Em) (z : Nat) (l : List Int) : Nat → Em
  | 0 => E
  | k + 1 => (E.shufTo z l k).shufAt z (gt l k) k
def Em.hideTo (E : Em) (l : List Int) : Nat → Em
  | 0 => E
  | k + 1 => (E.hideTo l k).dos (hideEv (E.hideTo l k).now (gt l k) 3)
def Em.shuf0 (E : Em) (p : Nat) : Em := (E.fail (ordR E.draws (E.now.num 23) (E.now.list p).length).2.2).setGame 5 (ordR E.draws (E.now.num 23) (E.now.list p).length).2.1
def dealt (l o : List Int) : List Int := o.map fun i => gt l i.toNat
def Em.shufD (E : Em) (p : Nat) : List Int := dealt (E.now.list p) (ordR E.draws (E.now.num 23) (E.now.list p).length).1
def Em.shuffle (E : Em) (p : Int) : Em :=
  if E.err ≠ 0 then E
  else if ¬ (p = 0 ∨ p = 1) then { E with err := 1 }
  else if (E.shuf0 p.toNat).err ≠ 0 then E.shuf0 p.toNat
  else ((E.shuf0 p.toNat).shufTo p.toNat (E.shufD p.toNat) (E.shufD p.toNat).length).hideTo (E.shufD p.toNat) (E.shufD p.toNat).length
/-! ### Orders -/
theorem swap_len (l : List Int) (i k : Nat) : (swapL l i k).length = l.length := by simp [swapL]
theorem ordS_len (d : List Int) (c n : Nat) : ∀ t, (ordS d c n t).length = n
  | 0 => by simp [ordS, idL]
  | t + 1 => by rw [ordS, swap_len, ordS_len d c n t]
theorem swap_perm (l : List Int) (i k : Nat) (hi : i < l.length) (hk : k < l.length) : (swapL l i k).Perm l := by
  unfold swapL
  rw [gt_eq l k hk, gt_eq l i hi]
  exact List.set_set_perm hi hk
theorem ordS_perm (d : List Int) (c n : Nat) : ∀ t, t ≤ n - 1 → (ordS d c n t).Perm (idL n)
  | 0, _ => List.Perm.refl _
  | t + 1, h => by
    rw [ordS]
    have hb := belowI_in (gt d (c + t)) ((n - 1 - t : Nat) + 1) (by omega)
    refine (swap_perm _ _ _ (by rw [ordS_len]; omega) (by rw [ordS_len]; omega)).trans (ordS_perm d c n t (by omega))
theorem ordS_in (d : List Int) (c n t : Nat) (h : t ≤ n - 1) : ∀ x ∈ ordS d c n t, 0 ≤ x ∧ x < n := fun x hx => by
  have := (ordS_perm d c n t h).mem_iff.1 hx
  obtain ⟨i, hi, rfl⟩ := List.mem_map.1 (show x ∈ (List.range n).map fun (i : Nat) => (i : Int) from this)
  have := List.mem_range.1 hi
  omega
theorem range_sorted (n : Nat) : List.Pairwise (fun a b : Int => (decide (a ≤ b)) = true) (idL n) := by
  unfold idL
  rw [List.pairwise_map]
  refine List.Pairwise.imp ?_ (List.pairwise_lt_range (n := n))
  intro a b h
  simp; omega
theorem sort_range (l : List Int) (n : Nat) (h : l.Perm (idL n)) : l.mergeSort (fun x y => decide (x ≤ y)) = idL n := by
  have h1 : List.Pairwise (fun a b : Int => (decide (a ≤ b)) = true) (l.mergeSort (fun x y => decide (x ≤ y))) := List.pairwise_mergeSort (by intro a b c; simp; omega) (by intro a b; simp; omega) l
  have h2 : (l.mergeSort (fun x y => decide (x ≤ y))).Perm (idL n) := (List.mergeSort_perm l _).trans h
  exact h2.eq_of_pairwise (fun a b _ _ h1 h2 => by simp at h1 h2; omega) h1 (range_sorted n)
end Go.Proofs.YtgobdndjemicjaaGreatDoor
