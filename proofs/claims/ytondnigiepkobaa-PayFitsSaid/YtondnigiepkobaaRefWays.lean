/-
  The walk of the reference's Ways: a table of sums.
-/
import Derived.Test.YtondnigiepkobaaSum
import Derived.Test.YtondnigiepkobaaWaysMath
namespace Go.Proofs.Ytondnigiepkobaa
open Go Go.RowKit

theorem gt_zeros (n i : Nat) : gt (List.replicate n 0) i = 0 := by
  simp only [gt, List.getD, List.getElem?_replicate]
  split <;> rfl
theorem madeCells_zero (n : Nat) : madeCells #[.int .i64 0] n = cellsOf (List.replicate n 0) := by
  apply Array.ext'
  rw [toList_madeCells_one]
  simp [cellsOf]
@[go_sem] theorem make_ints (w : World) (l c : Int) (h0 : 0 ≤ l) (hlc : l = c) (h1 : c ≤ 1099511627776) : (Instr.makeSlice 53 (.int .i64 l) (.int .i64 c)).run Try.prog w = .ok (.slice (some ⟨w.heap.size, 0, none⟩) c.toNat c.toNat) (w.alloc (.cells (cellsOf (List.replicate c.toNat 0)) 3)) := by
  subst hlc
  have hb : (Try.t3.bytes : Int) * l ≤ 281474976710656 := by
    rw [show (Try.t3.bytes : Int) = 8 by kernel_rfl]; omega
  have h := run_make (P := Try.prog) w 53 3 Try.t3 (.int .i64 0) Try.underlying53 (by kernel_rfl) (by kernel_rfl) .i64 .i64 l l h0 (Int.le_refl _) hb (by omega)
  rw [h, show Try.t3.size = 1 by kernel_rfl, Nat.mul_one]
  simp only [Value.cells, madeCells_zero]
@[go_sem] theorem cells1 (a : Int) (t : TypeId) (fr : Nat × Nat) : Obj.cells #[.int .i64 a] t fr = .cells (cellsOf [a]) t fr := rfl

theorem bnd {x a b : Int} (h : a ≤ x ∧ x ≤ b) : a ≤ x ∧ x ≤ b := h

set_option maxHeartbeats 400000 in
theorem refTotal_any (c : List Int) (hl : c.length = 6) (hg : goodL c = true) (w : World) :
    Calls Try.prog 24 #[.agg (cellsOf c)] w fun e w' => e = .returned (.int .i64 c.sum) ∧ Grow w w' := by
  have h0 := goodL_gt hg 0; have h1 := goodL_gt hg 1; have h2 := goodL_gt hg 2; have h3 := goodL_gt hg 3; have h4 := goodL_gt hg 4; have h5 := goodL_gt hg 5
  clear hg
  go_enter Try.func24, Try.ntmps24
  go_wp2
  go_ret
  exact ⟨ret_int (by rw [sum6 c hl]), (by repeat (first | exact Grow.refl _ | refine Grow.plus ?_ _ | refine Grow.alloc ?_ _ | refine Grow.drew ?_))⟩

/-- What is over of each place: of the colours what the cost doesn't ask for. -/
def freeAt (p c : List Int) (i : Nat) : Int := if i < 5 then gt p i - gt c i else gt p i
/-- The first k of them, the last one first. -/
def backTo (p c : List Int) : Nat → List Int
  | 0 => []
  | k + 1 => freeAt p c k :: backTo p c k
def sumsTo (p c : List Int) : Nat → List Int
  | 0 => [1]
  | k + 1 => tabTo (sumsTo p c k) (freeAt p c k).toNat (List.replicate ((sumsTo p c k).length + (freeAt p c k).toNat) 0) (sumsTo p c k).length
theorem sumsTo_len (p c : List Int) : ∀ k, ((sumsTo p c (k + 1)).length = (sumsTo p c k).length + (freeAt p c k).toNat)
  | k => by rw [sumsTo, tabTo_len, List.length_replicate]
theorem sumsTo_ways (p c : List Int) (hf : ∀ i, 0 ≤ freeAt p c i) : ∀ k, (∀ i, gt (sumsTo p c k) i = waysL (backTo p c k) i) ∧ (∀ x : Int, ((sumsTo p c k).length : Int) ≤ x → waysL (backTo p c k) x = 0)
  | 0 => by
    refine ⟨fun i => ?_, fun x hx => ?_⟩
    · match i with
      | 0 => rfl
      | n + 1 => simp only [sumsTo, backTo, waysL]; rw [if_neg (by omega)]; rfl
    · simp only [sumsTo, backTo, waysL, List.length_cons, List.length_nil] at *; rw [if_neg (by omega)]
  | k + 1 => by
    obtain ⟨h1, h2⟩ := sumsTo_ways p c hf k
    have hl := sumsTo_len p c k
    refine ⟨fun i => ?_, fun x hx => ?_⟩
    · rw [sumsTo, backTo]
      exact tab_ways h1 _ h2 _ (by simp) (fun i => gt_zeros _ i) i
    · have := hf k
      rw [backTo, waysL, sumF_congr (g := fun _ => 0) _ (fun n hn => h2 _ (by omega)), sumF_zero]

structure Free (p c : List Int) : Prop where
  pos : ∀ i, 0 ≤ freeAt p c i
  top : ∀ i, freeAt p c i ≤ 60
  len : ∀ k, k ≤ 6 → (sumsTo p c k).length ≤ 61 ∧ 1 ≤ (sumsTo p c k).length
  last : (sumsTo p c 6).length = 1 + (freeAt p c 0).toNat + (freeAt p c 1).toNat + (freeAt p c 2).toNat + (freeAt p c 3).toNat + (freeAt p c 4).toNat + (freeAt p c 5).toNat
theorem free_of {p c : List Int} (hp : p.length = 6) (hcan : canL p c = true) (h60 : p.sum ≤ 60) : Free p c := by
  obtain ⟨gp, gc⟩ := canL_good hcan
  obtain ⟨_, hle⟩ := canL_parts hcan
  rw [sum6 p hp] at h60
  have a0 := goodL_gt gp 0; have a1 := goodL_gt gp 1; have a2 := goodL_gt gp 2; have a3 := goodL_gt gp 3; have a4 := goodL_gt gp 4; have a5 := goodL_gt gp 5
  have c0 := goodL_gt gc 0; have c1 := goodL_gt gc 1; have c2 := goodL_gt gc 2; have c3 := goodL_gt gc 3; have c4 := goodL_gt gc 4
  have l0 := hle 0 (by omega); have l1 := hle 1 (by omega); have l2 := hle 2 (by omega); have l3 := hle 3 (by omega); have l4 := hle 4 (by omega)
  have f0 : freeAt p c 0 = gt p 0 - gt c 0 := rfl
  have f1 : freeAt p c 1 = gt p 1 - gt c 1 := rfl
  have f2 : freeAt p c 2 = gt p 2 - gt c 2 := rfl
  have f3 : freeAt p c 3 = gt p 3 - gt c 3 := rfl
  have f4 : freeAt p c 4 = gt p 4 - gt c 4 := rfl
  have f5 : freeAt p c 5 = gt p 5 := rfl
  have f6 : ∀ i, 6 ≤ i → freeAt p c i = 0 := fun i hi => by rw [freeAt, if_neg (by omega)]; simp [gt, show ¬ i < p.length by omega]
  have s0 : (sumsTo p c 0).length = 1 := rfl
  have s1 := sumsTo_len p c 0; have s2 := sumsTo_len p c 1; have s3 := sumsTo_len p c 2; have s4 := sumsTo_len p c 3; have s5 := sumsTo_len p c 4; have s6 := sumsTo_len p c 5
  simp only [Nat.zero_add, Nat.reduceAdd] at s1 s2 s3 s4 s5 s6
  refine ⟨fun i => ?_, fun i => ?_, fun k hk => ?_, by omega⟩
  · by_cases hi : i < 6
    · rcases lt6 hi with rfl | rfl | rfl | rfl | rfl | rfl <;> omega
    · rw [f6 i (by omega)]; omega
  · by_cases hi : i < 6
    · rcases lt6 hi with rfl | rfl | rfl | rfl | rfl | rfl <;> omega
    · rw [f6 i (by omega)]; omega
  · have hN : (freeAt p c 0).toNat + (freeAt p c 1).toNat + (freeAt p c 2).toNat + (freeAt p c 3).toNat + (freeAt p c 4).toNat + (freeAt p c 5).toNat ≤ 60 := by
      clear s0 s1 s2 s3 s4 s5 s6
      omega
    clear a0 a1 a2 a3 a4 a5 c0 c1 c2 c3 c4 l0 l1 l2 l3 l4 f0 f1 f2 f3 f4 f5 f6 h60
    have : k = 0 ∨ k = 1 ∨ k = 2 ∨ k = 3 ∨ k = 4 ∨ k = 5 ∨ k = 6 := by omega
    rcases this with rfl | rfl | rfl | rfl | rfl | rfl | rfl <;> omega
theorem last_lt {p c : List Int} (hp : p.length = 6) (hc : c.length = 6) (hcan : canL p c = true) (F : Free p c) : (gt c 5).toNat < (sumsTo p c 6).length := by
  have hs := (canL_parts hcan).1
  rw [sum6 p hp, sum6 c hc] at hs
  have f0 : freeAt p c 0 = gt p 0 - gt c 0 := rfl
  have f1 : freeAt p c 1 = gt p 1 - gt c 1 := rfl
  have f2 : freeAt p c 2 = gt p 2 - gt c 2 := rfl
  have f3 : freeAt p c 3 = gt p 3 - gt c 3 := rfl
  have f4 : freeAt p c 4 = gt p 4 - gt c 4 := rfl
  have f5 : freeAt p c 5 = gt p 5 := rfl
  have q0 := F.pos 0; have q1 := F.pos 1; have q2 := F.pos 2; have q3 := F.pos 3; have q4 := F.pos 4; have q5 := F.pos 5
  have hl := F.last
  have e : gt c 5 ≤ freeAt p c 0 + freeAt p c 1 + freeAt p c 2 + freeAt p c 3 + freeAt p c 4 + freeAt p c 5 := by omega
  clear f0 f1 f2 f3 f4 f5 hs
  omega
theorem back_top {p c : List Int} (F : Free p c) : ∀ k x, x ∈ backTo p c k → x ≤ 60
  | 0, _, h => by cases h
  | k + 1, x, h => by
    rcases List.mem_cons.1 h with h | h
    · rw [h]; exact F.top k
    · exact back_top F k x h
theorem back_len (p c : List Int) : ∀ k, (backTo p c k).length = k
  | 0 => rfl
  | k + 1 => by rw [backTo, List.length_cons, back_len p c k]
theorem pow61 {k : Nat} (h : k ≤ 6) : (61 : Int) ^ k ≤ 51520374361 := by
  have h1 : (61 : Nat) ^ k ≤ 61 ^ 6 := Nat.pow_le_pow_right (by omega) h
  have h2 : (61 : Nat) ^ 6 = 51520374361 := by rfl
  have h3 : ((61 ^ k : Nat) : Int) = (61 : Int) ^ k := by simp
  omega
theorem sums_bd {p c : List Int} (F : Free p c) (k : Nat) (hk : k ≤ 6) (i : Nat) : 0 ≤ gt (sumsTo p c k) i ∧ gt (sumsTo p c k) i ≤ 51520374361 := by
  have h := waysL_bd (backTo p c k) i (back_top F k)
  rw [(sumsTo_ways p c F.pos k).1 i]
  rw [back_len] at h
  exact ⟨h.1, Int.le_trans h.2 (pow61 hk)⟩
theorem tab_bd {s : List Int} (f : Nat) (t : List Int) (M : Int) (hM : 0 ≤ M) (hs : ∀ i, 0 ≤ gt s i ∧ gt s i ≤ M) (h0 : ∀ i, gt t i = 0) (a b i : Nat) (ha : a + f + 1 ≤ t.length) (hb : b ≤ f + 1) :
    0 ≤ gt (rowTo s a (tabTo s f t a) b) i ∧ gt (rowTo s a (tabTo s f t a) b) i ≤ (a + 1) * M := by
  rw [rowTo_at _ _ _ _ _ (by rw [tabTo_len]; omega), tabTo_at _ _ _ _ _ (by omega), h0]
  have h1 := sumF_bd (fun j => if j ≤ i ∧ i < j + (f + 1) then gt s j else 0) M a (fun j _ => by
    split
    · exact hs j
    · omega)
  have h2 := hs a
  rw [show ((a : Int) + 1) * M = a * M + M by rw [Int.add_mul]; simp]
  split <;> omega
end Go.Proofs.Ytondnigiepkobaa
