/-
  The usual payment, one by one, is the document's.
-/
import Derived.Test.YtondnigiepkobaaPayMath
namespace Go.Proofs.Ytondnigiepkobaa
open Go Go.RowKit

theorem bestTo_best (r : List Int) : ∀ k, (∀ i, i < k + 1 → gt r i ≤ gt r (bestTo r (k + 1))) ∧ (∀ i, i < bestTo r (k + 1) → gt r i < gt r (bestTo r (k + 1)))
  | 0 => by
    have h : bestTo r 1 = 0 := by simp [bestTo]
    rw [h]
    exact ⟨fun i hi => by obtain rfl : i = 0 := by omega
                          omega, fun i hi => by omega⟩
  | k + 1 => by
    obtain ⟨h1, h2⟩ := bestTo_best r k
    have hb := bestTo_lt' r k
    rw [bestTo]
    split
    · rename_i hlt
      refine ⟨fun i hi => ?_, fun i hi => ?_⟩
      · by_cases e : i = k + 1
        · subst e; omega
        · have := h1 i (by omega); omega
      · have := h1 i (by omega); omega
    · rename_i hge
      refine ⟨fun i hi => ?_, h2⟩
      by_cases e : i = k + 1
      · subst e; omega
      · exact h1 i (by omega)

theorem mostTo_best (p q r : List Int) (h : ∀ i, i < 5 → gt r i = gt p i - gt q i ∧ 0 ≤ gt r i) : ∀ k, k < 5 → mostTo p q (k + 1) = gt r (bestTo r (k + 1))
  | 0, _ => by
    have hb : bestTo r 1 = 0 := by simp [bestTo]
    have h0 := h 0 (by omega)
    rw [hb]
    show (if (0 : Int) < gt p 0 - gt q 0 then gt p 0 - gt q 0 else 0) = gt r 0
    rcases Int.lt_or_le 0 (gt p 0 - gt q 0) with hh | hh
    · rw [if_pos hh]; omega
    · rw [if_neg (by omega)]; omega
  | k + 1, hk => by
    have ih := mostTo_best p q r h k (by omega)
    have h1 := h (k + 1) hk
    show (if mostTo p q (k + 1) < gt p (k + 1) - gt q (k + 1) then gt p (k + 1) - gt q (k + 1) else mostTo p q (k + 1)) = gt r (if gt r (bestTo r (k + 1)) < gt r (k + 1) then k + 1 else bestTo r (k + 1))
    rw [ih]
    by_cases hh : gt r (bestTo r (k + 1)) < gt r (k + 1)
    · rw [if_pos hh, if_pos (by omega)]; omega
    · rw [if_neg hh, if_neg (by omega)]

theorem seekAt_first (p q : List Int) (m : Int) (b : Nat) (hb : gt p b - gt q b = m) : ∀ f k, k ≤ b → b < k + f → (∀ i, k ≤ i → i < b → gt p i - gt q i ≠ m) → seekAt p q m f k = some b
  | 0, k, _, h, _ => by omega
  | f + 1, k, hk, hf, hn => by
    by_cases e : k = b
    · subst e; exact seekAt_hit p q m f k hb
    · rw [seekAt_miss p q m f k (hn k (by omega) (by omega))]
      exact seekAt_first p q m b hb f (k + 1) (by omega) (by omega) (fun i hi => hn i (by omega))

theorem nextL_ref (p q r : List Int) (hr : ∀ i, i < 6 → gt r i = gt p i - gt q i ∧ 0 ≤ gt r i) : refStep p q = q.set (nextL r) (gt q (nextL r) + 1) := by
  have h5 := hr 5 (by omega)
  unfold refStep nextL
  by_cases h : 0 < gt r 5
  · rw [if_pos h, if_pos (by omega)]
  · rw [if_neg h, if_neg (by omega)]
    have hb : bestTo r 5 ≤ 4 := bestTo_lt' r 4
    have hm : mostTo p q 5 = gt r (bestTo r 5) := mostTo_best p q r (fun i hi => hr i (by omega)) 4 (by omega)
    have h2 : ∀ i, i < bestTo r 5 → gt r i < gt r (bestTo r 5) := (bestTo_best r 4).2
    have hbb := hr (bestTo r 5) (by omega)
    rw [seekAt_first p q (mostTo p q 5) (bestTo r 5) (by rw [hm]; omega) 5 0 (by omega) (by omega) (fun i _ hi => by
      have := h2 i hi
      have := hr i (by omega)
      rw [hm]; omega)]

/-- What a payment that has come to (r, q) keeps. -/
structure PayInv (p c : List Int) (n : Nat) (r q : List Int) : Prop where
  lr : r.length = 6
  lq : q.length = 6
  dif : ∀ i, i < 6 → gt r i = gt p i - gt q i ∧ 0 ≤ gt r i
  sum : gt r 0 + gt r 1 + gt r 2 + gt r 3 + gt r 4 + gt r 5 = p.sum - c.sum + gt c 5 - n
  own : ∀ i, i < 5 → gt c i ≤ gt q i

theorem lt6 {j : Nat} (h : j < 6) : j = 0 ∨ j = 1 ∨ j = 2 ∨ j = 3 ∨ j = 4 ∨ j = 5 := by omega

theorem payInv_step {p c : List Int} {n : Nat} {r q : List Int} (h : PayInv p c n r q) (hs : c.sum ≤ p.sum) (hn : (n : Int) < gt c 5) :
    PayInv p c (n + 1) (r.set (nextL r) (gt r (nextL r) - 1)) (q.set (nextL r) (gt q (nextL r) + 1)) := by
  obtain ⟨lr, lq, dif, sum, own⟩ := h
  have hj := nextL_lt r
  have pos : 1 ≤ gt r (nextL r) := by
    unfold nextL
    by_cases h5 : 0 < gt r 5
    · rw [if_pos h5]; omega
    · rw [if_neg h5]
      obtain ⟨h1, _⟩ := bestTo_best r 4
      have a0 := h1 0 (by omega); have a1 := h1 1 (by omega); have a2 := h1 2 (by omega); have a3 := h1 3 (by omega); have a4 := h1 4 (by omega)
      rw [show (4 : Nat) + 1 = 5 from rfl] at a0 a1 a2 a3 a4
      omega
  refine ⟨by simp [lr], by simp [lq], fun i hi => ?_, ?_, fun i hi => ?_⟩
  · have := dif i hi
    rw [gt_set _ _ _ _ (by omega), gt_set _ _ _ _ (by omega)]
    split
    · rename_i e; subst e; omega
    · omega
  · simp only [gt_set _ _ _ _ (show nextL r < r.length by omega)]
    generalize nextL r = j at hj pos
    rcases lt6 hj with rfl | rfl | rfl | rfl | rfl | rfl <;> simp <;> omega
  · have := own i hi
    rw [gt_set _ _ _ _ (by omega)]
    split
    · rename_i e; subst e; omega
    · omega

theorem payFree_at (p c : List Int) (hp : p.length = 6) : ∀ k, k ≤ 5 → ∀ i, (gt (payFree p c k).1 i = if i < k then gt p i - gt c i else gt p i) ∧ (gt (payFree p c k).2 i = if i < k then gt c i else 0)
  | 0, _, i => by
    have h0 : gt [0, 0, 0, 0, 0, 0] i = 0 := by
      match i with
      | 0 | 1 | 2 | 3 | 4 | 5 => rfl
      | n + 6 => rfl
    simp [payFree, h0]
  | k + 1, hk, i => by
    have ih := payFree_at p c hp k (by omega)
    have hl := payFree_len p c hp k
    have hi := ih i
    have hkk := ih k
    simp only [payFree]
    rw [gt_set _ _ _ _ (by omega), gt_set _ _ _ _ (by omega)]
    by_cases e : k = i
    · subst e; rw [hkk.1]; simp
    · rw [if_neg e, if_neg e, hi.1, hi.2]
      by_cases h : i < k
      · rw [if_pos h, if_pos (by omega), if_pos h, if_pos (by omega)]; exact ⟨rfl, rfl⟩
      · rw [if_neg h, if_neg (by omega), if_neg h, if_neg (by omega)]; exact ⟨rfl, rfl⟩

theorem canL_parts {p c : List Int} (h : canL p c = true) : c.sum ≤ p.sum ∧ ∀ i, i < 5 → gt c i ≤ gt p i := by
  simp only [canL, Bool.and_eq_true, List.all_eq_true, List.mem_range, decide_eq_true_eq] at h
  exact ⟨h.1.2, h.2⟩

theorem payFree_paid (p c : List Int) (hp : p.length = 6) (hc : c.length = 6) : (payFree p c 5).2 = c.set 5 0 := by
  refine gt_ext _ _ (by rw [(payFree_len p c hp 5).2]; simp [hc]) fun i hi => ?_
  rw [(payFree_len p c hp 5).2] at hi
  rw [(payFree_at p c hp 5 (by omega) i).2, gt_set _ _ _ _ (by omega)]
  by_cases h : i < 5
  · rw [if_pos h, if_neg (by omega)]
  · rw [if_neg h, if_pos (by omega)]

theorem payInv_all {p c : List Int} (hp : p.length = 6) (hc : c.length = 6) (hcan : canL p c = true) : ∀ n : Nat, n ≤ (gt c 5).toNat →
    PayInv p c n (payN n (payFree p c 5)).1 (payN n (payFree p c 5)).2 ∧ (payN n (payFree p c 5)).2 = refN p n (c.set 5 0)
  | 0, _ => by
    have gp := goodL_gt (canL_good hcan).1
    have gc := goodL_gt (canL_good hcan).2
    have h := payFree_at p c hp 5 (by omega)
    have hl := payFree_len p c hp 5
    obtain ⟨hs, hle⟩ := canL_parts hcan
    refine ⟨⟨hl.1, hl.2, fun i hi => ?_, ?_, fun i hi => ?_⟩, ?_⟩
    · simp only [payN]
      rw [(h i).1, (h i).2]
      have := gp i
      by_cases h5 : i < 5
      · have := hle i h5; rw [if_pos h5, if_pos h5]; omega
      · rw [if_neg h5, if_neg h5]; omega
    · simp only [payN]
      rw [(h 0).1, (h 1).1, (h 2).1, (h 3).1, (h 4).1, (h 5).1, sum6 p hp, sum6 c hc]
      simp; omega
    · simp only [payN]; rw [(h i).2]; simp [hi]
    · exact payFree_paid p c hp hc
  | n + 1, hn => by
    obtain ⟨ih, he⟩ := payInv_all hp hc hcan n (by omega)
    have hs := (canL_parts hcan).1
    refine ⟨payInv_step ih hs (by omega), ?_⟩
    rw [refN, ← he, nextL_ref _ _ _ ih.dif]; rfl

theorem lessTo_at (p q : List Int) : ∀ k i, i < 6 → k ≤ 6 → gt (lessTo p q k) i = if i < k then gt p i - gt q i else 0
  | 0, i, hi, _ => by
    rcases lt6 hi with rfl | rfl | rfl | rfl | rfl | rfl <;> rfl
  | k + 1, i, hi, hk => by
    have ih := lessTo_at p q k i hi (by omega)
    rw [lessTo, gt_set _ _ _ _ (by rw [lessTo_len]; omega)]
    by_cases e : k = i
    · subst e; simp
    · rw [if_neg e, ih]
      by_cases h : i < k
      · rw [if_pos h, if_pos (by omega)]
      · rw [if_neg h, if_neg (by omega)]

theorem payL_ref {p c : List Int} (hp : p.length = 6) (hc : c.length = 6) (hcan : canL p c = true) : payL p c = (lessTo p (refPaid p c) 6, refPaid p c) := by
  obtain ⟨inv, he⟩ := payInv_all hp hc hcan _ (Nat.le_refl _)
  have e2 : (payL p c).2 = refPaid p c := he
  have e1 : (payL p c).1 = lessTo p (refPaid p c) 6 := by
    refine gt_ext _ _ (by rw [lessTo_len]; exact inv.lr) fun i hi => ?_
    have hi' : i < 6 := by have := inv.lr; unfold payL at hi; omega
    rw [lessTo_at _ _ _ _ hi' (by omega), if_pos hi', ← e2]
    exact (inv.dif i hi').1
  exact Prod.ext e1 e2
end Go.Proofs.Ytondnigiepkobaa
