/-
  Arrays and slices of rows, built out of their rows.
-/
import Derived.Test.YtibmnofpoenonaaGreatDoorTable
namespace Go.Proofs.YtibmnofpoenonaaGreatDoor
open Go Go.RowKit

theorem catV_size (k : Nat) : ∀ (l : List (Array Value)), (∀ x, x ∈ l → x.size = k) → (catV l).size = l.length * k
  | [], _ => by simp [catV]
  | x :: l, h => by
    have h1 := catV_size k l (fun y hy => h y (by simp [hy]))
    have h2 := h x (by simp)
    show (x ++ catV l).size = _
    rw [Array.size_append, h1, h2, List.length_cons, Nat.succ_mul, Nat.add_comm]
theorem catV_sub (k : Nat) : ∀ (l : List (Array Value)), (∀ x, x ∈ l → x.size = k) → ∀ (i : Nat) (hi : i < l.length), sub (catV l) (i * k) k = l[i]'hi
  | [], _, i, hi => by cases hi
  | x :: l, h, 0, _ => by
    have h2 := h x (by simp)
    show (x ++ catV l).extract (0 * k) (0 * k + k) = x
    rw [Nat.zero_mul, Nat.zero_add, Array.extract_append, ← h2, Array.extract_size]
    simp
  | x :: l, h, i + 1, hi => by
    have h2 := h x (by simp)
    have hi' : i < l.length := by simpa using hi
    have ih := catV_sub k l (fun y hy => h y (by simp [hy])) i hi'
    show (x ++ catV l).extract ((i + 1) * k) ((i + 1) * k + k) = l[i]
    rw [Array.extract_append, ← ih, h2, sub, Nat.succ_mul]
    rw [show i * k + k - k = i * k by omega, show i * k + k + k - k = i * k + k by omega]
    have : x.extract (i * k + k) (i * k + k + k) = #[] := by
      apply Array.eq_empty_of_size_eq_zero
      rw [Array.size_extract]; omega
    rw [this, Array.empty_append]
theorem catV_append (a b : List (Array Value)) : catV (a ++ b) = catV a ++ catV b := by
  induction a with
  | nil => simp [catV]
  | cons x a ih =>
    show x ++ catV (a ++ b) = (x ++ catV a) ++ catV b
    rw [ih, Array.append_assoc]
theorem catV_one (l : List (Array Value)) (h : ∀ x, x ∈ l → oneCells x = true) : oneCells (catV l) = true := by
  induction l with
  | nil => simp [oneCells, catV]
  | cons x l ih =>
    show oneCells (x ++ catV l) = true
    have h1 := h x (by simp)
    have h2 := ih (fun y hy => h y (by simp [hy]))
    unfold oneCells at *
    rw [Array.all_append, h1, h2]; rfl

theorem setFold_at (v : List Value) : ∀ (s off : Nat) (cs : Array Value), off + s + v.length ≤ cs.size → ∀ i,
    ((v.zipIdx s).foldl (fun cs p => cs.setIfInBounds (off + p.2) p.1) cs)[i]? = if off + s ≤ i ∧ i < off + s + v.length then v[i - (off + s)]? else cs[i]? := by
  induction v with
  | nil => intro s off cs h i; rw [if_neg (by simp)]; rfl
  | cons x v ih =>
    intro s off cs h i
    simp only [List.length_cons] at h
    rw [List.zipIdx_cons, List.foldl_cons, ih (s + 1) off _ (by simp; omega), Array.getElem?_setIfInBounds, List.length_cons]
    by_cases h1 : i < off + s
    · rw [if_neg (by omega), if_neg (by omega), if_neg (by omega)]
    · by_cases h2 : i = off + s
      · subst h2
        rw [if_neg (by omega), if_pos rfl, if_pos (by omega), if_pos (by omega)]; simp
      · by_cases h3 : i < off + s + (v.length + 1)
        · rw [if_pos (by omega), if_pos (by omega), show i - (off + s) = (i - (off + (s + 1))) + 1 by omega, List.getElem?_cons_succ]
        · rw [if_neg (by omega), if_neg (by omega), if_neg (by omega)]
theorem setFold (v : List Value) (s off : Nat) (cs : Array Value) (h : off + s + v.length ≤ cs.size) :
    (v.zipIdx s).foldl (fun cs p => cs.setIfInBounds (off + p.2) p.1) cs = cs.extract 0 (off + s) ++ v.toArray ++ cs.extract (off + s + v.length) cs.size := by
  apply Array.ext_getElem?
  intro i
  rw [setFold_at v s off cs h i]
  have e1 : min (off + s) cs.size = off + s := by omega
  simp only [Array.getElem?_append, Array.getElem?_extract, Array.size_extract, Array.size_append, List.size_toArray, List.getElem?_toArray, Nat.sub_zero, Nat.zero_add, e1, Nat.min_self]
  by_cases h1 : i < off + s
  · rw [if_neg (by omega), if_pos (by omega), if_pos (by omega), if_pos (by omega)]
  · by_cases h2 : i < off + s + v.length
    · rw [if_pos (by omega), if_pos (by omega), if_neg (by omega)]
    · rw [if_neg (by omega), if_neg (by omega)]
      by_cases h3 : i < cs.size
      · rw [if_pos (by omega)]; congr 1; omega
      · rw [if_neg (by omega), Array.getElem?_eq_none (by omega)]
/-- The parts of a build, in their order. -/
def rowParts (l : List (Array Value)) : Array (Nat × Value) := (l.zipIdx.map fun p => (p.2, Value.agg p.1)).toArray
theorem fill_rows (k : Nat) : ∀ (l : List (Array Value)) (m : Nat) (pre post : Array Value), pre.size = m * k → post.size = l.length * k → (∀ x, x ∈ l → x.size = k) →
    Instr.fill (fun i => some (i * k, k)) (pre ++ post) ((l.zipIdx m).map fun p => (p.2, Value.agg p.1)) = some (pre ++ catV l)
  | [], m, pre, post, _, h2, _ => by
    have : post = #[] := Array.eq_empty_of_size_eq_zero (by simpa using h2)
    subst this
    simp [Instr.fill, catV]
  | x :: l, m, pre, post, h1, h2, h3 => by
    have hx := h3 x (by simp)
    have hl : post.size = l.length * k + k := by rw [h2, List.length_cons, Nat.succ_mul]
    rw [List.zipIdx_cons, List.map_cons]
    unfold Instr.fill
    simp only [Value.cells, hx, ne_eq, not_true_eq_false, decide_false, Bool.false_or, Array.size_append, h1, decide_eq_true_eq]
    rw [if_neg (by omega)]
    have hf := setFold x.toList 0 (m * k) (pre ++ post) (by simp [h1, hx]; omega)
    rw [Array.length_toList, hx, Nat.add_zero] at hf
    rw [← Array.foldl_toList, Array.toList_zipIdx]
    rw [hf]
    have e1 : (pre ++ post).extract 0 (m * k) = pre := by rw [Array.extract_append, h1]; simp [← h1]
    have e2 : (pre ++ post).extract (m * k + k) (pre ++ post).size = post.extract k post.size := by
      rw [Array.extract_append, Array.size_append, h1]
      have : pre.extract (m * k + k) (m * k + post.size) = #[] := by
        apply Array.eq_empty_of_size_eq_zero
        rw [Array.size_extract]; omega
      rw [this, Array.empty_append]
      congr 1 <;> omega
    rw [e1, e2, Array.toArray_toList]
    rw [fill_rows k l (m + 1) (pre ++ x) _ (by rw [Array.size_append, h1, hx, Nat.succ_mul]) (by rw [Array.size_extract]; omega) (fun y hy => h3 y (by simp [hy]))]
    show some (pre ++ x ++ catV l) = some (pre ++ (x ++ catV l))
    rw [Array.append_assoc]
theorem run_zeroV {P : Program} (w : World) {T : TypeId} {ti : TypeInfo} {z : Value} (hi : P.info? T = some ti) (hz : ti.zero = some z) : (zeroValue T).run P w = .ok z w := by
  simp [zeroValue, typeInfo, hi, hz]
theorem run_build_rows {P : Program} (w : World) (T e n k : Nat) (ti : TypeInfo) (hT : P.underlying T = some (.array n e)) (hs : (sizeOf e).run P w = .ok k w) (hi : P.info? T = some ti) (hz : ti.zero.map (·.cells.size) = some (n * k)) (l : List (Array Value)) (hl : l.length = n) (hk : ∀ x, x ∈ l → x.size = k) :
    (bdRow T (rowParts l)).run P w = .ok (.value (.agg (catV l))) w := by
  obtain ⟨z, hz1, hz2⟩ := Option.map_eq_some_iff.1 hz
  have hf := fill_rows k l 0 #[] z.cells (by simp) (by rw [hz2, hl]) hk
  rw [Array.empty_append, Array.empty_append] at hf
  unfold bdRow Instr.build rowParts
  simp only [Sem.run_bind, run_zeroV w hi hz1, Result.andThen_ok, run_underlying hT, hs, hf, Sem.run_pure]
theorem run_bs_rows {P : Program} (w : World) (T e n k : Nat) (ti : TypeInfo) (hT : P.underlying T = some (.slice e)) (hs : ∀ w, (sizeOf e).run P w = .ok k w) (hi : P.info? e = some ti) (hz : ti.zero.map (·.cells.size) = some k) (hk0 : k ≠ 0) (hn0 : n ≠ 0) (hb : n * k ≤ 2 ^ 24) (l : List (Array Value)) (hl : l.length = n) (hk : ∀ x, x ∈ l → x.size = k) :
    (bsRow T n (rowParts l)).run P w = .ok (.value (.slice (some ⟨w.heap.size, 0, none⟩) n n)) (w.alloc (.cells (catV l) e)) := by
  obtain ⟨z, hz1, hz2⟩ := Option.map_eq_some_iff.1 hz
  have hf := fill_rows k l 0 #[] ((Array.range (n * k)).map (z.cells[· % z.cells.size]!)) (by simp) (by simp [hl]) hk
  rw [Array.empty_append, Array.empty_append] at hf
  have hnk : n * k ≠ 0 := Nat.mul_ne_zero hn0 hk0
  unfold bsRow Instr.buildSlice rowParts
  simp only [Sem.run_bind, Result.andThen_ok, run_underlying hT, hs, if_neg hnk, run_zeroV w hi hz1, hf, Sem.run_pure, if_neg (show ¬ n * k > 2 ^ 24 by omega)]
  rfl
end Go.Proofs.YtibmnofpoenonaaGreatDoor
