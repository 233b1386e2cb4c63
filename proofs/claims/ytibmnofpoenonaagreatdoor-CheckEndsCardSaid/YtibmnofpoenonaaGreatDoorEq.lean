/-
  Rows of whole numbers, compared.
-/
import Derived.Test.YtibmnofpoenonaaGreatDoorPlus
namespace Go.Proofs.YtibmnofpoenonaaGreatDoor
open Go Go.RowKit

theorem forIn_all {P : Program} (w : World) (f : Nat → Bool) (body : Nat → Sem (ForInStep (Option Bool × Unit))) (tail : Option Bool × Unit → Sem Bool)
    (ht : ∀ r, (tail r).run P w = .ok (match r.1 with | none => true | some b => b) w) : ∀ (l : List Nat),
    (∀ i, i ∈ l → (body i).run P w = .ok (if f i then ForInStep.yield (none, ()) else ForInStep.done (some false, ())) w) →
    ((forIn (m := Sem) l (none, ()) (fun i _ => body i)) >>= tail).run P w = .ok (l.all f) w
  | [], _ => by simp [ht]
  | i :: l, h => by
    have h0 := h i (by simp)
    have ih := forIn_all w f body tail ht l (fun j hj => h j (by simp [hj]))
    rw [Sem.run_bind] at ih ⊢
    rw [List.forIn_cons, Sem.run_bind, h0]
    cases hf : f i
    · simp [hf, ht]
    · simp only [Result.andThen_ok, if_true, List.all_cons, hf, Bool.true_and]
      exact ih

/-- Two arrays are compared element by element. -/
theorem run_equalIn_array {P : Program} (w : World) (T e n s : Nat) (hT : P.underlying T = some (.array n e)) (hs : (P.info? e).map (·.size) = some s) (d : Nat) (xs ys : Array Value) (f : Nat → Bool)
    (h : ∀ i, i < n → ∃ x y, (part e xs (i * s)).run P w = .ok x w ∧ (part e ys (i * s)).run P w = .ok y w ∧ (Op.equalIn d e x y).run P w = .ok (f i) w) :
    (Op.equalIn (d + 1) T (.agg xs) (.agg ys)).run P w = .ok ((List.range n).all f) w := by
  obtain ⟨inf, hinf, hsz⟩ : ∃ i, P.info? e = some i ∧ i.size = s := by
    cases h : P.info? e with
    | none => simp [h] at hs
    | some i => exact ⟨i, rfl, by simpa [h] using hs⟩
  have hs' : (sizeOf e).run P w = .ok s w := by simp [sizeOf, typeInfo, hinf, hsz]
  rw [Op.equalIn.eq_def]
  simp only []
  rw [Sem.run_bind, run_underlying hT]
  simp only [Result.andThen_ok]
  rw [Sem.run_bind, hs']
  simp only [Result.andThen_ok]
  rw [Std.Legacy.Range.forIn_eq_forIn_range', show ([:n] : Std.Legacy.Range).size = n by simp [Std.Legacy.Range.size], List.range_eq_range']
  refine forIn_all w f _ _ ?_ (List.range' 0 n) ?_
  · rintro ⟨r, _⟩; cases r <;> rfl
  · intro i hi
    have hi' : i < n := by simpa using hi
    obtain ⟨x, y, hx, hy, hxy⟩ := h i hi'
    simp only [Sem.run_bind, hx, hy, hxy, Result.andThen_ok]
    cases f i <;> rfl

theorem all_gt_eq (n : Nat) (a b : List Int) (ha : a.length = n) (hb : b.length = n) : ((List.range n).all fun i => gt a i == gt b i) = decide (a = b) := by
  rw [Bool.eq_iff_iff]
  simp only [List.all_eq_true, List.mem_range, beq_iff_eq, decide_eq_true_eq]
  constructor
  · intro h; exact gt_ext a b (by omega) (fun i hi => h i (by omega))
  · intro h i _; rw [h]

theorem run_part_int {P : Program} (w : World) (e k : Nat) (c : List Int) (he : P.underlying e = some (.int .i64)) (hk : k < c.length) : (part e (cellsOf c) k).run P w = .ok (I (gt c k)) w := by
  have hagg : (isAgg e).run P w = .ok false w := by simp [isAgg, run_underlying he]
  unfold part
  rw [Sem.run_bind, hagg]
  simp [cellsOf_get c k hk]

theorem run_equalIn_ints {P : Program} (w : World) (T e n : Nat) (hT : P.underlying T = some (.array n e)) (he : P.underlying e = some (.int .i64)) (hi : (P.info? e).map (·.size) = some 1) (d : Nat) (a b : List Int) (ha : a.length = n) (hb : b.length = n) :
    (Op.equalIn (d + 2) T (.agg (cellsOf a)) (.agg (cellsOf b))).run P w = .ok (decide (a = b)) w := by
  rw [← all_gt_eq n a b ha hb]
  refine run_equalIn_array w T e n 1 hT hi (d + 1) _ _ _ fun i hin => ⟨_, _, run_part_int w e _ a he (by omega), run_part_int w e _ b he (by omega), ?_⟩
  rw [Nat.mul_one]
  exact run_equalIn_int w d e _ _ _ _ he

theorem run_eql_ints {P : Program} (w : World) (T e n : Nat) (hT : P.underlying T = some (.array n e)) (he : P.underlying e = some (.int .i64)) (hi : (P.info? e).map (·.size) = some 1) (a b : List Int) (ha : a.length = n) (hb : b.length = n) :
    (binOp .eql T (.agg (cellsOf a)) (.agg (cellsOf b))).run P w = .ok (.bool (decide (a = b))) w := by
  rw [run_eql_struct, show (10000 : Nat) = 9998 + 2 from rfl, run_equalIn_ints w T e n hT he hi 9998 a b ha hb]; rfl
theorem run_neq_ints {P : Program} (w : World) (T e n : Nat) (hT : P.underlying T = some (.array n e)) (he : P.underlying e = some (.int .i64)) (hi : (P.info? e).map (·.size) = some 1) (a b : List Int) (ha : a.length = n) (hb : b.length = n) :
    (binOp .neq T (.agg (cellsOf a)) (.agg (cellsOf b))).run P w = .ok (.bool (!decide (a = b))) w := by
  rw [run_neq_struct, show (10000 : Nat) = 9998 + 2 from rfl, run_equalIn_ints w T e n hT he hi 9998 a b ha hb]; rfl

theorem run_index_ints {P : Program} (w : World) (T e n : Nat) (hT : P.underlying T = some (.array n e)) (he : P.underlying e = some (.int .i64)) (hi : (P.info? e).map (·.size) = some 1) (c : List Int) (hc : c.length = n) (k : IntKind) (i : Int) (h0 : 0 ≤ i) (h1 : i < n) :
    (Instr.index T (.agg (cellsOf c)) (.int k i)).run P w = .ok (I (gt c i.toNat)) w := by
  obtain ⟨inf, hinf, hsz⟩ : ∃ i, P.info? e = some i ∧ i.size = 1 := by
    cases h : P.info? e with
    | none => simp [h] at hi
    | some i => exact ⟨i, rfl, by simpa [h] using hi⟩
  have hs : (sizeOf e).run P w = .ok 1 w := by simp [sizeOf, typeInfo, hinf, hsz]
  simp only [Instr.index, asIntOf, Sem.run_bind, Sem.run_pure, Result.andThen_ok, run_underlying hT, h0, h1, and_self, if_true, hs, Nat.mul_one]
  exact run_part_int w e _ c he (by omega)
end Go.Proofs.YtibmnofpoenonaaGreatDoor
