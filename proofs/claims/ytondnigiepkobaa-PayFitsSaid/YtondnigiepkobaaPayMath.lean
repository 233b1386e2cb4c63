/-
  What the payments of a cost come to: plain functions on rows of six numbers.
-/
import Derived.Test.YtondnigiepkobaaPlus
namespace Go.Proofs.Ytondnigiepkobaa
open Go Go.RowKit

def goodN (x : Int) : Bool := decide (0 ≤ x) && decide (x ≤ 1000)
def goodL (c : List Int) : Bool := c.all goodN
theorem take_snoc (c : List Int) (k : Nat) (h : k < c.length) : c.take (k + 1) = c.take k ++ [gt c k] := by
  rw [List.take_succ_eq_append_getElem h, gt_eq c k h]
theorem goodL_snoc (c : List Int) (k : Nat) (h : k < c.length) : goodL (c.take (k + 1)) = (goodL (c.take k) && goodN (gt c k)) := by
  rw [take_snoc c k h]; simp [goodL]
theorem goodL_gt {c : List Int} (h : goodL c = true) (i : Nat) : 0 ≤ gt c i ∧ gt c i ≤ 1000 := by
  by_cases hi : i < c.length
  · have := List.all_eq_true.1 h (gt c i) (by rw [gt_eq c i hi]; exact List.getElem_mem hi)
    simpa [goodN] using this
  · have : gt c i = 0 := by simp [gt, hi]
    omega
theorem goodL_bad {c : List Int} (i : Nat) (h : goodN (gt c i) = false) : goodL c = false := by
  cases hg : goodL c with
  | false => rfl
  | true => have := goodL_gt hg i; simp [goodN] at h; omega
theorem sum_snoc (c : List Int) (k : Nat) (h : k < c.length) : (c.take (k + 1)).sum = (c.take k).sum + gt c k := by
  rw [take_snoc c k h]; simp
theorem sum_take_bd {c : List Int} (h : goodL c = true) : ∀ k, k ≤ c.length → 0 ≤ (c.take k).sum ∧ (c.take k).sum ≤ 1000 * k
  | 0, _ => by simp
  | k + 1, hk => by
    have ih := sum_take_bd h k (by omega)
    have := goodL_gt h k
    rw [sum_snoc c k (by omega)]; omega

/-- The first place of a number of which p is so; -1: there is none. -/
def idxF (p : Int → Bool) (l : List Int) : Int := match l.findIdx? p with | some i => i | none => -1
theorem idxF_none (p : Int → Bool) (l : List Int) (h : l.any p = false) : idxF p l = -1 := by
  have : l.findIdx? p = none := by simpa [List.findIdx?_eq_none_iff] using h
  rw [idxF, this]
theorem idxF_hit (p : Int → Bool) (l : List Int) (k : Nat) (hk : k < l.length) (h : (l.take k).any p = false) (hp : p (gt l k) = true) : idxF p l = k := by
  have : l.findIdx? p = some k := by
    rw [List.findIdx?_eq_some_iff_getElem]
    refine ⟨hk, by rwa [← gt_eq l k hk], fun j hj => ?_⟩
    have hx : l[j] ∈ l.take k := List.mem_take_iff_getElem.2 ⟨j, by omega, rfl⟩
    have := List.any_eq_false.1 h _ hx
    simpa using this
  rw [idxF, this]
theorem any_snoc (p : Int → Bool) (l : List Int) (k : Nat) (hk : k < l.length) : (l.take (k + 1)).any p = ((l.take k).any p || p (gt l k)) := by
  rw [take_snoc l k hk]; simp
theorem idxF_any (p : Int → Bool) (l : List Int) : decide (0 ≤ idxF p l) = l.any p := by
  cases h : l.any p with
  | false => rw [idxF_none p l h]; rfl
  | true =>
    cases hf : l.findIdx? p with
    | none => simp [List.findIdx?_eq_none_iff] at hf; simp at h; obtain ⟨x, hx, hp⟩ := h; have := hf x hx; simp [hp] at this
    | some i => simp [idxF, hf]

/-- Is there a payment? -/
def canL (p c : List Int) : Bool := goodL p && goodL c && decide (c.sum ≤ p.sum) && (List.range 5).all fun i => decide (gt c i ≤ gt p i)

/-- Of the first k the one of which most is left. -/
def bestTo (r : List Int) : Nat → Nat
  | 0 => 0
  | k + 1 => if gt r (bestTo r k) < gt r k then k else bestTo r k
theorem bestTo_lt (r : List Int) : ∀ k, bestTo r k ≤ k
  | 0 => by simp [bestTo]
  | k + 1 => by have := bestTo_lt r k; unfold bestTo; split <;> omega
theorem bestTo_lt' (r : List Int) (k : Nat) : bestTo r (k + 1) ≤ k := by
  have := bestTo_lt r k; unfold bestTo; split <;> omega
def nextL (r : List Int) : Nat := if 0 < gt r 5 then 5 else bestTo r 5
theorem nextL_lt (r : List Int) : nextL r < 6 := by
  have : bestTo r 5 ≤ 4 := bestTo_lt' r 4
  unfold nextL; split <;> omega

/-- One more is paid. -/
def payStep (x : List Int × List Int) : List Int × List Int :=
  (x.1.set (nextL x.1) (gt x.1 (nextL x.1) - 1), x.2.set (nextL x.1) (gt x.2 (nextL x.1) + 1))
def payN : Nat → List Int × List Int → List Int × List Int
  | 0, x => x
  | n + 1, x => payStep (payN n x)
/-- What is paid by its colour. -/
def payFree (p c : List Int) : Nat → List Int × List Int
  | 0 => (p, [0, 0, 0, 0, 0, 0])
  | k + 1 => ((payFree p c k).1.set k (gt (payFree p c k).1 k - gt c k), (payFree p c k).2.set k (gt c k))
def payL (p c : List Int) : List Int × List Int := payN (gt c 5).toNat (payFree p c 5)

theorem payFree_len (p c : List Int) (hp : p.length = 6) : ∀ k, (payFree p c k).1.length = 6 ∧ (payFree p c k).2.length = 6
  | 0 => ⟨hp, rfl⟩
  | k + 1 => by have := payFree_len p c hp k; simp [payFree, this]
theorem payN_len (x : List Int × List Int) (h : x.1.length = 6 ∧ x.2.length = 6) : ∀ n, (payN n x).1.length = 6 ∧ (payN n x).2.length = 6
  | 0 => h
  | n + 1 => by have := payN_len x h n; simp [payN, payStep, this]
theorem payFree_bd (p c : List Int) (hp : p.length = 6) (gp : goodL p = true) (gc : goodL c = true) : ∀ k i, -1000 ≤ gt (payFree p c k).1 i ∧ gt (payFree p c k).1 i ≤ 1000 ∧ 0 ≤ gt (payFree p c k).2 i ∧ gt (payFree p c k).2 i ≤ 1000 ∧ (k ≤ i → gt (payFree p c k).1 i = gt p i)
  | 0, i => by
    have := goodL_gt gp i
    have h0 : gt [0, 0, 0, 0, 0, 0] i = 0 := by
      match i with
      | 0 | 1 | 2 | 3 | 4 | 5 => rfl
      | n + 6 => rfl
    simp only [payFree, h0]
    exact ⟨by omega, by omega, by omega, by omega, fun _ => trivial⟩
  | k + 1, i => by
    have ih := payFree_bd p c hp gp gc k
    have hl := payFree_len p c hp k
    have hi := ih i
    have hk := ih k
    have h1 := goodL_gt gp k
    have h2 := goodL_gt gc k
    simp only [payFree]
    by_cases hk6 : k < 6
    · rw [gt_set _ _ _ _ (by omega), gt_set _ _ _ _ (by omega)]
      by_cases e : k = i
      · simp only [e, if_true]; subst e; rw [hk.2.2.2.2 (by omega)]; omega
      · simp only [e, if_false]; exact ⟨hi.1, hi.2.1, hi.2.2.1, hi.2.2.2.1, fun h => hi.2.2.2.2 (by omega)⟩
    · rw [List.set_eq_of_length_le (by omega), List.set_eq_of_length_le (by omega)]
      exact ⟨hi.1, hi.2.1, hi.2.2.1, hi.2.2.2.1, fun h => hi.2.2.2.2 (by omega)⟩
theorem payN_bd (x : List Int × List Int) (hl : x.1.length = 6 ∧ x.2.length = 6) (a b c d : Int) (h : ∀ i, a ≤ gt x.1 i ∧ gt x.1 i ≤ b ∧ c ≤ gt x.2 i ∧ gt x.2 i ≤ d) : ∀ n i, a - n ≤ gt (payN n x).1 i ∧ gt (payN n x).1 i ≤ b ∧ c ≤ gt (payN n x).2 i ∧ gt (payN n x).2 i ≤ d + n
  | 0, i => by have := h i; simp only [payN]; omega
  | n + 1, i => by
    have ih := payN_bd x hl a b c d h n
    have hn := payN_len x hl n
    have hi := ih i
    have hk := ih (nextL (payN n x).1)
    have hlt := nextL_lt (payN n x).1
    simp only [payN, payStep]
    rw [gt_set _ _ _ _ (by omega), gt_set _ _ _ _ (by omega)]
    by_cases e : nextL (payN n x).1 = i
    · simp only [e, if_true]; rw [e] at hk; omega
    · simp only [e, if_false]; omega

/-! ### the reference's payment -/
def mostTo (p q : List Int) : Nat → Int
  | 0 => 0
  | k + 1 => if mostTo p q k < gt p k - gt q k then gt p k - gt q k else mostTo p q k
/-- The first of five places from k on (fuel f) with so much. -/
def seekAt (p q : List Int) (m : Int) : Nat → Nat → Option Nat
  | 0, _ => none
  | f + 1, k => if gt p k - gt q k = m then some k else seekAt p q m f (k + 1)
def refStep (p q : List Int) : List Int :=
  if gt q 5 < gt p 5 then q.set 5 (gt q 5 + 1) else match seekAt p q (mostTo p q 5) 5 0 with | some i => q.set i (gt q i + 1) | none => q
def refN (p : List Int) : Nat → List Int → List Int
  | 0, q => q
  | n + 1, q => refStep p (refN p n q)
/-- What is left: p less q. -/
def lessTo (p q : List Int) : Nat → List Int
  | 0 => [0, 0, 0, 0, 0, 0]
  | k + 1 => (lessTo p q k).set k (gt p k - gt q k)
def refPaid (p c : List Int) : List Int := refN p (gt c 5).toNat (c.set 5 0)

theorem seekAt_hit (p q : List Int) (m : Int) (f k : Nat) (h : gt p k - gt q k = m) : seekAt p q m (f + 1) k = some k := by rw [seekAt, if_pos h]
theorem seekAt_miss (p q : List Int) (m : Int) (f k : Nat) (h : ¬ gt p k - gt q k = m) : seekAt p q m (f + 1) k = seekAt p q m f (k + 1) := by rw [seekAt, if_neg h]
theorem seekAt_lt (p q : List Int) (m : Int) : ∀ f k i, seekAt p q m f k = some i → k ≤ i ∧ i < k + f
  | 0, _, _, h => by cases h
  | f + 1, k, i, h => by
    unfold seekAt at h
    split at h
    · cases h; omega
    · have := seekAt_lt p q m f (k + 1) i h; omega
theorem refStep_len (p q : List Int) : (refStep p q).length = q.length := by
  unfold refStep
  split
  · simp
  · split <;> simp
theorem refN_len (p q : List Int) : ∀ n, (refN p n q).length = q.length
  | 0 => rfl
  | n + 1 => by rw [refN, refStep_len, refN_len p q n]
theorem lessTo_len (p q : List Int) : ∀ k, (lessTo p q k).length = 6
  | 0 => rfl
  | k + 1 => by simp [lessTo, lessTo_len p q k]
theorem refN_bd (p q : List Int) (hq : q.length = 6) (h : ∀ i, 0 ≤ gt q i ∧ gt q i ≤ 1000) : ∀ n i, 0 ≤ gt (refN p n q) i ∧ gt (refN p n q) i ≤ 1000 + n
  | 0, i => by have := h i; simp only [refN]; omega
  | n + 1, i => by
    have ih := refN_bd p q hq h n
    have hl : (refN p n q).length = 6 := by rw [refN_len, hq]
    have hi := ih i
    simp only [refN, refStep]
    split
    · rw [gt_set _ _ _ _ (by omega)]
      split
      · have := ih 5; omega
      · omega
    · split
      · rename_i j hj
        have hlt := seekAt_lt _ _ _ _ _ _ hj
        rw [gt_set _ _ _ _ (by omega)]
        split
        · have := ih j; omega
        · omega
      · omega
theorem mostTo_bd (p q : List Int) (a b : Int) (h0 : a ≤ 0 ∧ 0 ≤ b) (h : ∀ i, a ≤ gt p i - gt q i ∧ gt p i - gt q i ≤ b) : ∀ k, a ≤ mostTo p q k ∧ mostTo p q k ≤ b
  | 0 => by simp only [mostTo]; omega
  | k + 1 => by have ih := mostTo_bd p q a b h0 h k; have := h k; simp only [mostTo]; split <;> omega

/-! ### whether it can be paid -/
theorem canL_sum {p c : List Int} (h : ¬ c.sum ≤ p.sum) : canL p c = false := by simp [canL, h]
theorem canL_at {p c : List Int} (k : Nat) (hk : k < 5) (h : gt p k < gt c k) : canL p c = false := by
  cases hc : canL p c with
  | false => rfl
  | true =>
    simp only [canL, Bool.and_eq_true, List.all_eq_true, List.mem_range, decide_eq_true_eq] at hc
    have := hc.2 k hk
    omega
theorem canL_yes {p c : List Int} (gp : goodL p = true) (gc : goodL c = true) (hs : c.sum ≤ p.sum) (h : ∀ i, i < 5 → gt c i ≤ gt p i) : canL p c = true := by
  simp only [canL, gp, gc, Bool.and_eq_true, List.all_eq_true, List.mem_range, decide_eq_true_eq]
  exact ⟨⟨⟨trivial, trivial⟩, hs⟩, h⟩
theorem canL_good {p c : List Int} (h : canL p c = true) : goodL p = true ∧ goodL c = true := by
  simp only [canL, Bool.and_eq_true] at h; exact h.1.1
/-- All that is over. -/
def overL (p c : List Int) : Nat → Int
  | 0 => gt p 5
  | k + 1 => overL p c k + (gt p k - gt c k)
theorem sum6 (c : List Int) (h : c.length = 6) : c.sum = gt c 0 + gt c 1 + gt c 2 + gt c 3 + gt c 4 + gt c 5 := by
  match c, h with
  | [a, b, c, d, e, f], _ => simp [gt]; omega
theorem overL_five (p c : List Int) (hp : p.length = 6) (hc : c.length = 6) : decide (gt c 5 ≤ overL p c 5) = decide (c.sum ≤ p.sum) := by
  rw [sum6 p hp, sum6 c hc]
  simp only [overL]
  exact decide_eq_decide.2 (by omega)
theorem overL_bd {p c : List Int} (gp : goodL p = true) (gc : goodL c = true) : ∀ k, -1000 * k ≤ overL p c k ∧ overL p c k ≤ 1000 * k + 1000
  | 0 => by have := goodL_gt gp 5; simp only [overL]; omega
  | k + 1 => by
    have ih := overL_bd gp gc k
    have h1 := goodL_gt gp k
    have h2 := goodL_gt gc k
    simp only [overL]; omega
end Go.Proofs.Ytondnigiepkobaa
