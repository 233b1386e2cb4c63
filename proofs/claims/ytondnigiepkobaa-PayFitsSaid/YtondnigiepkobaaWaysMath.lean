/-
  How many ways there are to take so much out of so many places: two countings, and that they agree.
-/
import Derived.Test.YtondnigiepkobaaPayMath
namespace Go.Proofs.Ytondnigiepkobaa
open Go Go.RowKit

/-- The sum of f 0 .. f (k - 1). -/
def sumF : Nat → (Nat → Int) → Int
  | 0, _ => 0
  | k + 1, f => sumF k f + f k
theorem sumF_congr {f g : Nat → Int} : ∀ k, (∀ i, i < k → f i = g i) → sumF k f = sumF k g
  | 0, _ => rfl
  | k + 1, h => by rw [sumF, sumF, sumF_congr k (fun i hi => h i (by omega)), h k (by omega)]
theorem sumF_zero : ∀ k, sumF k (fun _ => 0) = 0
  | 0 => rfl
  | k + 1 => by rw [sumF, sumF_zero k]; rfl
theorem sumF_add (f g : Nat → Int) : ∀ k, sumF k (fun i => f i + g i) = sumF k f + sumF k g
  | 0 => rfl
  | k + 1 => by simp only [sumF]; rw [sumF_add f g k]; omega
theorem sumF_swap (f : Nat → Nat → Int) (m : Nat) : ∀ k, sumF k (fun i => sumF m (fun j => f i j)) = sumF m (fun j => sumF k (fun i => f i j))
  | 0 => by simp only [sumF]; rw [sumF_zero]
  | k + 1 => by simp only [sumF]; rw [sumF_swap f m k, ← sumF_add]
theorem sumF_bd (f : Nat → Int) (b : Int) : ∀ k, (∀ i, i < k → 0 ≤ f i ∧ f i ≤ b) → 0 ≤ sumF k f ∧ sumF k f ≤ k * b
  | 0, _ => by simp [sumF]
  | k + 1, h => by
    have ih := sumF_bd f b k (fun i hi => h i (by omega))
    have := h k (by omega)
    simp only [sumF]
    rw [show ((k + 1 : Nat) : Int) * b = k * b + b by rw [Int.natCast_add, Int.add_mul]; simp]
    omega
/-- Beyond a place all are 0. -/
theorem sumF_cut (f : Nat → Int) (m : Nat) : ∀ k, m ≤ k → (∀ i, m ≤ i → i < k → f i = 0) → sumF k f = sumF m f
  | 0, hm, _ => by obtain rfl : m = 0 := by omega
                   rfl
  | k + 1, hm, h => by
    by_cases e : m = k + 1
    · rw [e]
    · rw [sumF, h k (by omega) (by omega), sumF_cut f m k (by omega) (fun i h1 h2 => h i h1 (by omega))]; omega

/-- How many ways to take c out of these places. -/
def waysL : List Int → Int → Int
  | [], c => if c = 0 then 1 else 0
  | x :: l, c => sumF (x.toNat + 1) fun n => waysL l (c - n)
theorem waysL_neg : ∀ (l : List Int) (c : Int), c < 0 → waysL l c = 0
  | [], c, h => by simp [waysL]; omega
  | x :: l, c, h => by
    rw [waysL, sumF_congr (g := fun _ => 0) _ (fun n _ => waysL_neg l _ (by omega)), sumF_zero]
theorem waysL_swap (x y : Int) (l : List Int) (c : Int) : waysL (x :: y :: l) c = waysL (y :: x :: l) c := by
  simp only [waysL]
  rw [sumF_swap (fun n m => waysL l (c - n - m))]
  refine sumF_congr _ fun m _ => sumF_congr _ fun n _ => ?_
  rw [show c - (n : Int) - m = c - m - n by omega]
theorem waysL_perm {l l' : List Int} (h : l.Perm l') : ∀ c, waysL l c = waysL l' c := by
  induction h with
  | nil => intro c; rfl
  | cons x _ ih => intro c; simp only [waysL]; exact sumF_congr _ fun n _ => ih _
  | swap x y l => intro c; exact waysL_swap _ _ _ _
  | trans _ _ ih1 ih2 => intro c; rw [ih1, ih2]
theorem waysL_bd : ∀ (l : List Int) (c : Int), (∀ x, x ∈ l → x ≤ 60) → 0 ≤ waysL l c ∧ waysL l c ≤ 61 ^ l.length
  | [], c, _ => by simp only [waysL]; split <;> simp
  | x :: l, c, h => by
    have hx := h x (by simp)
    have ih := fun c => waysL_bd l c (fun y hy => h y (by simp [hy]))
    have := sumF_bd (fun n => waysL l (c - n)) (61 ^ l.length) (x.toNat + 1) (fun i _ => ih _)
    refine ⟨this.1, Int.le_trans this.2 ?_⟩
    rw [List.length_cons, Int.pow_succ, Int.mul_comm]
    refine Int.mul_le_mul_of_nonneg_left (by omega) ?_
    exact Int.le_of_lt (Int.pow_pos (by omega))
theorem sumF_nonneg (f : Nat → Int) : ∀ k, (∀ i, i < k → 0 ≤ f i) → 0 ≤ sumF k f
  | 0, _ => by simp [sumF]
  | k + 1, h => by have := sumF_nonneg f k (fun i hi => h i (by omega)); have := h k (by omega); simp only [sumF]; omega
theorem sumF_pos (f : Nat → Int) : ∀ k, (∀ i, i < k → 0 ≤ f i) → ∀ j, j < k → 0 < f j → 0 < sumF k f
  | 0, _, j, hj, _ => by omega
  | k + 1, h, j, hj, hp => by
    have h1 := sumF_nonneg f k (fun i hi => h i (by omega))
    have h2 := h k (by omega)
    simp only [sumF]
    by_cases e : j = k
    · subst e; omega
    · have := sumF_pos f k (fun i hi => h i (by omega)) j (by omega) hp; omega
theorem waysL_nonneg : ∀ (l : List Int) (c : Int), 0 ≤ waysL l c
  | [], c => by simp only [waysL]; split <;> omega
  | x :: l, c => by simp only [waysL]; exact sumF_nonneg _ _ fun i _ => waysL_nonneg l _
theorem sum_nonneg : ∀ (l : List Int), (∀ x, x ∈ l → 0 ≤ x) → 0 ≤ l.sum
  | [], _ => by simp
  | x :: l, h => by have := h x (by simp); have := sum_nonneg l (fun y hy => h y (List.mem_cons_of_mem x hy)); simp; omega
/-- Some way there is just where all of them are enough. -/
theorem waysL_pos : ∀ (l : List Int) (c : Int), (∀ x, x ∈ l → 0 ≤ x) → 0 ≤ c → c ≤ l.sum → 0 < waysL l c
  | [], c, _, h0, h1 => by
    obtain rfl : c = 0 := by simp at h1; omega
    simp [waysL]
  | x :: l, c, h, h0, h1 => by
    have hx := h x (by simp)
    have hl := fun y hy => h y (List.mem_cons_of_mem x hy)
    have hs := sum_nonneg l hl
    simp only [List.sum_cons] at h1
    rw [waysL]
    by_cases hcx : c ≤ x
    · exact sumF_pos _ _ (fun i _ => waysL_nonneg _ _) c.toNat (by omega) (waysL_pos l _ hl (by omega) (by omega))
    · exact sumF_pos _ _ (fun i _ => waysL_nonneg _ _) x.toNat (by omega) (waysL_pos l _ hl (by omega) (by omega))

/-- What one place more makes of the ways: with the first m of the number x counted. -/
theorem waysL_upto (x : Int) (l : List Int) (c : Int) (hx : 0 ≤ x) : waysL (x :: l) c = sumF ((if c < x then c else x).toNat + 1) fun n => waysL l (c - n) := by
  rw [waysL]
  refine sumF_cut _ _ _ (by split <;> omega) fun i h1 h2 => ?_
  refine waysL_neg _ _ ?_
  split at h1 <;> omega

/-! ### the reference's table -/
/-- Row a of the table: sums[a] is added at a, a + 1, .., as far as b. -/
def rowTo (sums : List Int) (a : Nat) (t : List Int) : Nat → List Int
  | 0 => t
  | b + 1 => (rowTo sums a t b).set (a + b) (gt (rowTo sums a t b) (a + b) + gt sums a)
def tabTo (sums : List Int) (f : Nat) (t : List Int) : Nat → List Int
  | 0 => t
  | a + 1 => rowTo sums a (tabTo sums f t a) (f + 1)
theorem rowTo_len (sums : List Int) (a : Nat) (t : List Int) : ∀ b, (rowTo sums a t b).length = t.length
  | 0 => rfl
  | b + 1 => by simp [rowTo, rowTo_len sums a t b]
theorem tabTo_len (sums : List Int) (f : Nat) (t : List Int) : ∀ a, (tabTo sums f t a).length = t.length
  | 0 => rfl
  | a + 1 => by simp [tabTo, rowTo_len, tabTo_len sums f t a]
theorem rowTo_at (sums : List Int) (a : Nat) (t : List Int) : ∀ b i, a + b ≤ t.length → gt (rowTo sums a t b) i = gt t i + if a ≤ i ∧ i < a + b then gt sums a else 0
  | 0, i, _ => by simp [rowTo]; omega
  | b + 1, i, hb => by
    have ih := rowTo_at sums a t b
    have hl := rowTo_len sums a t b
    rw [rowTo, gt_set _ _ _ _ (by omega)]
    by_cases e : a + b = i
    · subst e
      rw [if_pos rfl, ih _ (by omega), if_neg (by omega), if_pos (by omega)]; omega
    · rw [if_neg e, ih _ (by omega)]
      by_cases h : a ≤ i ∧ i < a + b
      · rw [if_pos h, if_pos (by omega)]
      · rw [if_neg h, if_neg (by omega)]
theorem tabTo_at (sums : List Int) (f : Nat) (t : List Int) : ∀ a i, a + f ≤ t.length → gt (tabTo sums f t a) i = gt t i + sumF a fun j => if j ≤ i ∧ i < j + (f + 1) then gt sums j else 0
  | 0, i, _ => by simp [tabTo, sumF]
  | a + 1, i, ha => by
    rw [tabTo, rowTo_at _ _ _ _ _ (by rw [tabTo_len]; omega), tabTo_at sums f t a i (by omega), sumF]
    omega
/-- The table behind a place more: of each number the ways with it. -/
theorem tab_ways {sums l : List Int} {x : Int} (hs : ∀ i, gt sums i = waysL l i) (n : Nat) (hz : ∀ c : Int, (n : Int) ≤ c → waysL l c = 0) (z : List Int) (hzl : z.length = n + x.toNat) (hz0 : ∀ i, gt z i = 0) (i : Nat) :
    gt (tabTo sums x.toNat z n) i = waysL (x :: l) i := by
  rw [tabTo_at _ _ _ _ _ (by omega), hz0, waysL]
  -- both are sums over the places of 'sums'
  have e1 : sumF n (fun j => if j ≤ i ∧ i < j + (x.toNat + 1) then gt sums j else 0) = sumF (i + 1) (fun j => if i < j + (x.toNat + 1) then waysL l j else 0) := by
    by_cases h : n ≤ i + 1
    · rw [sumF_cut (fun j => if i < j + (x.toNat + 1) then waysL l j else 0) n (i + 1) h (fun j h1 _ => by
        rw [hz j (by omega)]; simp)]
      refine sumF_congr _ fun j hj => ?_
      rw [hs j]
      by_cases h2 : i < j + (x.toNat + 1)
      · rw [if_pos ⟨by omega, h2⟩, if_pos h2]
      · rw [if_neg (by omega), if_neg h2]
    · rw [sumF_cut _ (i + 1) n (by omega) (fun j h1 _ => by rw [if_neg (by omega)])]
      refine sumF_congr _ fun j hj => ?_
      rw [hs j]
      by_cases h2 : i < j + (x.toNat + 1)
      · rw [if_pos ⟨by omega, h2⟩, if_pos h2]
      · rw [if_neg (by omega), if_neg h2]
  rw [e1]
  -- turned round: j becomes i - n
  have turn : ∀ (m : Nat) (g : Nat → Int), sumF (m + 1) g = sumF (m + 1) fun n => g (m - n) := by
    intro m
    induction m with
    | zero => intro g; rfl
    | succ m ih =>
      intro g
      have first : ∀ (k : Nat) (h : Nat → Int), sumF (k + 1) h = h 0 + sumF k fun n => h (n + 1) := by
        intro k
        induction k with
        | zero => intro h; simp [sumF]
        | succ k ihk => intro h; rw [sumF, ihk h, sumF]; omega
      rw [first (m + 1) fun n => g (m + 1 - n), sumF, ih g]
      rw [sumF_congr (f := fun n => g (m + 1 - (n + 1))) (g := fun n => g (m - n)) (m + 1) (fun n hn => by rw [show m + 1 - (n + 1) = m - n by omega])]
      simp; omega
  rw [turn i]
  have e2 : sumF (i + 1) (fun n => if i < i - n + (x.toNat + 1) then waysL l ((i - n : Nat) : Int) else 0) = sumF (i + 1) fun n => if n < x.toNat + 1 then waysL l ((i : Int) - n) else 0 :=
    sumF_congr _ fun n hn => by
      have h3 : ((i - n : Nat) : Int) = (i : Int) - n := by omega
      rw [h3]
      by_cases h2 : n < x.toNat + 1
      · rw [if_pos (by omega), if_pos h2]
      · rw [if_neg (by omega), if_neg h2]
  rw [e2]
  by_cases h : x.toNat ≤ i
  · rw [sumF_cut _ (x.toNat + 1) (i + 1) (by omega) (fun n h1 _ => by rw [if_neg (by omega)])]
    rw [sumF_congr (g := fun n => waysL l ((i : Int) - n)) _ (fun n hn => by rw [if_pos hn])]
    omega
  · rw [sumF_congr (g := fun n => waysL l ((i : Int) - n)) (i + 1) (fun n hn => by rw [if_pos (by omega)])]
    rw [← sumF_cut (fun n => waysL l ((i : Int) - n)) (i + 1) (x.toNat + 1) (by omega) (fun n h1 _ => waysL_neg _ _ (by omega))]
    omega
end Go.Proofs.Ytondnigiepkobaa
