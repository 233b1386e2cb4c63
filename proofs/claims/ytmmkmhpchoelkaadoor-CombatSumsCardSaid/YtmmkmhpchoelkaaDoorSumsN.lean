/-
  An attacker's hits are its power together: plain.
-/
import Derived.Test.YtmmkmhpchoelkaaDoorAll
namespace Go.Proofs.YtmmkmhpchoelkaaDoor
open Go Go.RowKit

/-- Does a hit count: is it an attacker's that does not block? -/
def countsB (S : St) (r : List Int) : Bool := (gt (rowAt S.objs (gt r 0).toNat) 11 == 1) && (gt (rowAt S.objs (gt r 0).toNat) 12 == 0)
/-- What counts of an object's hits. -/
def sumOf (S : St) (id : Int) : List (List Int) → Int
  | [] => 0
  | r :: l => (if countsB S r = true ∧ gt r 0 = id then gt r 2 else 0) + sumOf S id l
theorem sumOf_append (S : St) (id : Int) (a b : List (List Int)) : sumOf S id (a ++ b) = sumOf S id a + sumOf S id b := by
  induction a with
  | nil => simp [sumOf]
  | cons r a ih => rw [List.cons_append, sumOf, sumOf, ih]; omega
theorem sumOf_filter (S : St) (id : Int) (l : List (List Int)) : sumOf S id (l.filter nzB) = sumOf S id l := by
  induction l with
  | nil => rfl
  | cons r l ih =>
    by_cases h : nzB r = true
    · rw [List.filter_cons_of_pos h, sumOf, sumOf, ih]
    · rw [List.filter_cons_of_neg h, ih, sumOf]
      have : gt r 2 = 0 := by simpa [nzB] using h
      rw [this]; simp
theorem sumOf_zero (S : St) (id : Int) (l : List (List Int)) (h : ∀ r, r ∈ l → ¬ (countsB S r = true ∧ gt r 0 = id)) : sumOf S id l = 0 := by
  induction l with
  | nil => rfl
  | cons r l ih => rw [sumOf, if_neg (h r (by simp)), ih (fun r hr => h r (by simp [hr]))]; rfl
theorem sumOf_own (S : St) (a : Int) (hc : (gt (rowAt S.objs a.toNat) 11 == 1) && (gt (rowAt S.objs a.toNat) 12 == 0)) : ∀ k, sumOf S a (hitTo S a k).2 = powerN S a - (hitTo S a k).1
  | 0 => by simp [hitTo, sumOf]
  | k + 1 => by
    have ih := sumOf_own S a hc k
    rw [hitTo]
    simp only
    rw [sumOf_append, ih, sumOf, sumOf, if_pos ⟨hc, rfl⟩]
    simp only [gt, List.getD]
    simp
    omega
theorem sumOf_back (S : St) (id : Int) (a : Int) (ha : 0 ≤ a) (k : Nat) : sumOf S id (backTo S a k) = 0 := by
  refine sumOf_zero S id _ fun r hr => ?_
  obtain ⟨b, hb, rfl⟩ := List.mem_map.1 hr
  have hb2 : b ∈ blockersN S a := List.mem_of_mem_take hb
  have := (List.mem_filter.1 hb2).2
  unfold blocksB at this
  rw [Bool.and_eq_true, beq_iff_eq] at this
  rintro ⟨h1, _⟩
  unfold countsB at h1
  have e : gt [b, a + 1, powerN S b] 0 = b := rfl
  rw [e, Bool.and_eq_true, beq_iff_eq, beq_iff_eq] at h1
  omega
theorem hitTo_from (S : St) (a : Int) : ∀ k r, r ∈ (hitTo S a k).2 → gt r 0 = a
  | 0, r, h => by simp [hitTo] at h
  | k + 1, r, h => by
    simp only [hitTo, List.mem_append, List.mem_singleton] at h
    rcases h with h | rfl
    · exact hitTo_from S a k r h
    · rfl
/-- Behind the last blocker nothing is left, but with Trample. -/
theorem hitTo_end (S : St) (a : Int) (ht : hasB S a 64 ≠ true) (hl : (blockersN S a).length ≠ 0) : (hitTo S a (blockersN S a).length).1 = 0 := by
  obtain ⟨n, hn⟩ : ∃ n, (blockersN S a).length = n + 1 := ⟨(blockersN S a).length - 1, by omega⟩
  rw [hn, hitTo]
  simp only
  rw [takeN, if_neg (by rw [hn]; rintro (h | h); exact ht h; simp at h)]
  omega
theorem sumOf_hits (S : St) (id a : Int) (ha : 0 ≤ a) (hc : (gt (rowAt S.objs id.toNat) 11 == 1) && (gt (rowAt S.objs id.toNat) 12 == 0)) : sumOf S id (hitsN S a) = if a = id then powerN S id else 0 := by
  by_cases e : a = id
  · subst e
    rw [if_pos rfl, hitsN]
    split
    · rw [sumOf, sumOf, if_pos ⟨hc, rfl⟩]
      simp [gt, List.getD]
    · rename_i hl
      rw [sumOf_append, sumOf_append, sumOf_back S a a ha, sumOf_own S a hc]
      split
      · rw [sumOf, sumOf, if_pos ⟨hc, rfl⟩]
        simp [gt, List.getD]
      · rename_i ht
        rw [hitTo_end S a ht hl, sumOf]; omega
  · rw [if_neg e, hitsN]
    split
    · exact sumOf_zero S id _ (fun r hr => by rw [List.mem_singleton.1 hr]; rintro ⟨_, h⟩; exact e h)
    · rw [sumOf_append, sumOf_append, sumOf_back S id a ha]
      rw [sumOf_zero S id (hitTo S a _).2 (fun r hr => by rintro ⟨_, h⟩; rw [hitTo_from S a _ r hr] at h; exact e h)]
      split
      · rw [sumOf_zero S id _ (fun r hr => by rw [List.mem_singleton.1 hr]; rintro ⟨_, h⟩; exact e h)]; rfl
      · rfl
theorem sumOf_raw (S : St) (id : Int) (hc : (gt (rowAt S.objs id.toNat) 11 == 1) && (gt (rowAt S.objs id.toNat) 12 == 0)) : ∀ (l : List Int), (∀ a, a ∈ l → 0 ≤ a) → sumOf S id (l.flatMap (hitsN S)) = l.count id * powerN S id
  | [], _ => by simp [sumOf]
  | a :: l, h => by
    rw [List.flatMap_cons, sumOf_append, sumOf_raw S id hc l (fun b hb => h b (by simp [hb])), sumOf_hits S id a (h a (by simp)) hc, List.count_cons]
    by_cases e : a = id
    · subst e
      rw [if_pos rfl, if_pos (by simp)]
      rw [Int.natCast_add, Int.add_mul]; omega
    · rw [if_neg e, if_neg (by simpa using e)]; simp
/-- An attacker stands there once. -/
theorem attackers_once {S : St} (hR : Right S) {id : Int} (h : id ∈ attackersN S) : (attackersN S).count id = 1 := by
  have hm := (List.mem_filter.1 h).1
  have ha := attackers_in h
  have h1 : (attackersN S).count id = (S.list 8).count id := List.count_filter ha
  obtain ⟨c1, c2, _, _⟩ := creatureB_in (attacks_creature ha)
  have h2 := hR.zon.once id.toNat (by omega)
  rw [Int.toNat_of_nonneg c1] at h2
  have h3 : 1 ≤ (S.list 8).count id := List.count_pos_iff.2 hm
  have h4 : ∀ n, 9 ≤ n → (S.list 8).count id ≤ cntTo S id n := by
    intro n hn
    induction n with
    | zero => omega
    | succ n ih =>
      rw [cntTo_succ]
      by_cases e : n = 8
      · subst e; omega
      · have := ih (by omega); omega
  have := h4 11 (by omega)
  omega
theorem sums_plain {S : St} (hR : Right S) {id : Int} (h : id ∈ attackersN S) (hb : gt (rowAt S.objs id.toNat) 12 = 0) : sumOf S id (HitsN S) = powerN S id := by
  have ha := attackers_in h
  have hc : ((gt (rowAt S.objs id.toNat) 11 == 1) && (gt (rowAt S.objs id.toNat) 12 == 0)) = true := by
    unfold attacksB at ha
    rw [Bool.and_eq_true] at ha
    rw [ha.2, hb]; rfl
  rw [HitsN, sumOf_filter, rawN, sumOf_raw S id hc _ (fun a ha => (creatureB_in (attacks_creature (attackers_in ha))).1), attackers_once hR h]
  omega
theorem hit_pos {S : St} {r : List Int} (h : r ∈ HitsN S) : 0 < gt r 2 ∧ creatureB S (gt r 0) = true := by
  obtain ⟨h1, h2⟩ := List.mem_filter.1 h
  have hn : gt r 2 ≠ 0 := by simpa [nzB] using h2
  obtain ⟨a, ha, hr⟩ := List.mem_flatMap.1 h1
  have hca := attacks_creature (attackers_in ha)
  have key : 0 ≤ gt r 2 ∧ creatureB S (gt r 0) = true := by
    have hown : ∀ k r, r ∈ (hitTo S a k).2 → 0 ≤ gt r 2 := by
      intro k
      induction k with
      | zero => intro r h; simp [hitTo] at h
      | succ k ih =>
        intro r h
        simp only [hitTo, List.mem_append, List.mem_singleton] at h
        rcases h with h | rfl
        · exact ih r h
        · exact (takeN_range S a k _ (hitTo_range S a k).1).1
    unfold hitsN at hr
    split at hr
    · rw [List.mem_singleton.1 hr]; exact ⟨(powerN_range S a).1, hca⟩
    · simp only [List.mem_append] at hr
      rcases hr with (hr | hr) | hr
      · exact ⟨hown _ r hr, by rw [hitTo_from S a _ r hr]; exact hca⟩
      · split at hr
        · rw [List.mem_singleton.1 hr]; exact ⟨(hitTo_range S a _).1, hca⟩
        · simp at hr
      · obtain ⟨b, hb, rfl⟩ := List.mem_map.1 hr
        exact ⟨(powerN_range S b).1, blockers_in (List.mem_of_mem_take hb)⟩
  exact ⟨by omega, key.2⟩
end Go.Proofs.YtmmkmhpchoelkaaDoor
