/-
  Rows of hits: those of nothing are deleted, in place.
-/
import Derived.Test.YtgobdndjemicjaaGreatDoorMIdx
namespace Go.Proofs.YtgobdndjemicjaaGreatDoor
open Go Go.RowKit

/-! ### A row stored into a slice -/
theorem Rows'.put {w : World} {s : Sl} {k : Nat} {l : List (List Int)} (h : Rows' w s k l) {i : Nat} (hi : i < l.length) {r : List Int} (hr : r.length = k) : Rows' (w.setCells s.b (s.o + i * k) (r.map I)) s k (l.set i r) := by
  have hth : ∀ q, q < (r.map I).length → (w.cell? ⟨s.b, s.o + i * k + q, none⟩).isSome = true := fun q hq => by
    rw [h.cell i q hi (by rw [List.length_map, hr] at hq; exact hq)]; rfl
  have hrow : ∀ m, rowAt (l.set i r) m = if i = m then r else rowAt l m := fun m => rowAt_set l i m r hi
  refine ⟨by rw [List.length_set]; exact h.len, h.cap, fun m hm => ?_, fun m j hm hj => ?_⟩
  · rw [List.length_set] at hm
    rw [hrow]
    split
    · exact hr
    · exact h.wid m hm
  · rw [List.length_set] at hm
    rw [hrow]
    by_cases e : i = m
    · subst e
      rw [if_pos rfl]
      have := World.cell?_setCells_in s.b (r.map I) (s.o + i * k) w hth j (by rw [List.length_map, hr]; exact hj)
      rw [this]
      simp [gt, hr, hj]
    · rw [if_neg e]
      have hb : m * k + k ≤ i * k ∨ i * k + k ≤ m * k := by
        rcases Nat.lt_or_gt_of_ne e with h1 | h1
        · right
          have : (i + 1) * k ≤ m * k := Nat.mul_le_mul_right _ h1
          rw [Nat.add_mul] at this; omega
        · left
          have : (m + 1) * k ≤ i * k := Nat.mul_le_mul_right _ h1
          rw [Nat.add_mul] at this; omega
      rw [World.cell?_setCells_out s.b _ _ _ _ (fun _ _ => by
        show s.o + m * k + j < s.o + i * k ∨ s.o + i * k + (r.map I).length ≤ s.o + m * k + j
        rw [List.length_map, hr]; omega)]
      exact h.cell m j hm hj
theorem Room.put {w : World} {s : Sl} {k : Nat} (h : Room w s k) (o : Nat) (vs : List Value) (ho : s.o ≤ o) (hv : o + vs.length ≤ s.o + s.c * k) : Room (w.setCells s.b o vs) s k := by
  refine ⟨h.max, fun j hj => ?_⟩
  obtain ⟨t1, t2⟩ := h.there j hj
  rw [World.frozen?_setCells]
  refine ⟨?_, t2⟩
  by_cases hin : o ≤ s.o + j ∧ s.o + j < o + vs.length
  · have := World.cell?_setCells_in s.b vs o w (fun q hq => by
      have := (h.there (o - s.o + q) (by omega)).1
      rw [show s.o + (o - s.o + q) = o + q by omega] at this; exact this) (s.o + j - o) (by omega)
    rw [show s.o + j = o + (s.o + j - o) by omega, this]; rfl
  · rw [World.cell?_setCells_out s.b _ _ _ _ (fun _ _ => by show s.o + j < o ∨ o + vs.length ≤ s.o + j; omega)]
    exact t1
def Sl.pre (s : Sl) (i : Nat) : Sl := match s with
  | .nil => .nil
  | .mk b o _ c => .mk b o i c
def Sl.post (s : Sl) (l k : Nat) : Sl := match s with
  | .nil => .nil
  | .mk b o n c => .mk b (if c = l then o else o + l * k) (n - l) (c - l)
section
variable {P : Program} (w : World)
theorem run_slice_post {t e : TypeId} {k : Nat} (ht : P.underlying t = some (.slice e)) (hk : ∀ w, (sizeOf e).run P w = .ok k w) (s : Sl) (q : IntKind) (i : Int) (h0 : 0 ≤ i) (h1 : i ≤ s.n) :
    (Instr.slice t s.val (some (.int q i)) none none).run P w = .ok (s.post i.toNat k).val w := by
  cases s with
  | nil =>
    have : i = 0 := by simp [Sl.n] at h1; omega
    subst this
    simp [Instr.slice, Sl.val, Sl.post, run_underlying ht, hk, Instr.sliceBounds, run_sliceBound]
  | mk b o n c =>
    simp only [Sl.n] at h1
    simp only [Instr.slice, Sl.val, Sl.post, Sem.run_bind, run_underlying ht, Result.andThen_ok, Instr.sliceBounds, Sem.run_pure, run_sliceBound w q i n _ h0 h1, hk]
    split <;> simp [Addr.add]
theorem run_slice_pre {t e : TypeId} {k : Nat} (ht : P.underlying t = some (.slice e)) (hk : ∀ w, (sizeOf e).run P w = .ok k w) (s : Sl) (q : IntKind) (i : Int) (h0 : 0 ≤ i) (h1 : i ≤ s.c) :
    (Instr.slice t s.val none (some (.int q i)) none).run P w = .ok (s.pre i.toNat).val w := by
  have hi : (i.toNat : Int) = i := Int.toNat_of_nonneg h0
  cases s with
  | nil =>
    have : i = 0 := by simp [Sl.c] at h1; omega
    subst this
    simp [Instr.slice, Sl.val, Sl.pre, run_underlying ht, hk, Instr.sliceBounds, run_sliceBound]
  | mk b o n c =>
    simp only [Sl.c] at h1
    simp only [Instr.slice, Sl.val, Sl.pre, Sem.run_bind, run_underlying ht, Result.andThen_ok, Instr.sliceBounds, Sem.run_pure, run_sliceBound w q i c _ h0 h1, hk]
    split <;> simp [Addr.add]
end
theorem run_clear_rows {P : Program} (w : World) (t e ty : TypeId) (z : Value) (ht : P.underlying t = some (.slice e)) (hv : ∀ w, (zeroValue e).run P w = .ok z w) (h1 : z.cells.all (·.oneCell') = true) (k : Nat) (hk : z.cells.size = k) (hk0 : 0 < k) (s : Sl)
    (hc : ∀ j, j < s.n * k → (w.cell? ⟨s.b, s.o + j, none⟩).isSome = true) (hf : ∀ j, j < s.n * k → w.frozen? ⟨s.b, s.o + j, none⟩ = false) :
    (Builtin.clear_ #[t] ty #[s.val]).run P w = .ok (.tuple #[]) (w.setCells s.b s.o (Builtin.zeroCells z.cells s.n).toList) := by
  subst hk
  cases s with
  | nil => simp [Builtin.clear_, Sl.val, Sl.n, run_underlying ht, Builtin.zeroCells, World.setCells]
  | mk b o n c =>
    simp only [Sl.n, Sl.b, Sl.o] at hc hf ⊢
    cases n with
    | zero => simp [Builtin.clear_, Sl.val, run_underlying ht, Builtin.zeroCells, World.setCells]
    | succ m =>
      have hsz : (Builtin.zeroCells z.cells (m + 1)).toList.length = (m + 1) * z.cells.size := by rw [Array.length_toList, size_zeroCells]
      have hst := run_storeCells_cells (P := P) b o (Builtin.zeroCells z.cells (m + 1)).toList 0 w (by intro j hj; rw [hsz] at hj; exact hc j hj) (by intro j hj; rw [hsz] at hj; exact hf j hj) (by
        intro v hv'
        have hz : v ∈ z.cells.toList := by
          simp only [Builtin.zeroCells, Array.mem_toList_iff, Array.mem_map, Array.mem_range] at hv'
          obtain ⟨j, hj, rfl⟩ := hv'
          rw [getElem!_pos z.cells (j % z.cells.size) (Nat.mod_lt _ hk0)]
          simp
        rw [Array.all_eq_true_iff_forall_mem] at h1
        exact h1 v (by simpa using hz))
      simp only [Nat.add_zero] at hst
      simp [Builtin.clear_, Sl.val, run_underlying ht, hv, hst]
theorem wpList_clear {P : Program} {w w' : World} {ops : Array Oper} {rest : List Oper} {o : Oper} {a : Act} {Q : Exit → Act → World → Prop} (hgd : o.guard = none) (x : Operand) (t : TypeId) (ho : o.op = .call { callee := .builtin .clear, args := #[x], argTypes := #[t] })
    (s : Sl) (hx : a.eval x = s.val) (hrun : ∀ ty, (Builtin.clear_ #[t] ty #[s.val]).run P w = .ok (.tuple #[]) w') (h : wpList P ops Q rest (a.put o.dst (.tuple #[])) w') : wpList P ops Q (o :: rest) a w := by
  refine wpList_plain hgd fun K hK => ?_
  unfold Oper.wp execOp
  simp only [ho, resolve, invoke, builtin, Sem.run_bind, Sem.run_pure, Result.andThen_ok, List.map_toArray, List.map_cons, List.map_nil, hx, hrun]
  exact hK _ _ h
@[go_sem] theorem run_storeM_Hit (w : World) (b o : Nat) (c : List Int) (hc : c.length = 3) (ht : w.there b o 3) : (stRow 185 (.pointer (some ⟨b, o, none⟩)) (.agg (cellsOf c))).run Tryz.prog w = .ok .skip (w.setCells b o (c.map I)) := by
  unfold stRow
  rw [Sem.run_bind, run_storeAt_mid (P := Tryz.prog) w b o 185 (cellsOf c) (by rw [cellsOf_size, hc]; exact ht) (by rw [cellsOf_size, hc]; kernel_rfl) (oneCell_cells c)]
  rfl
@[go_sem] theorem slice_hits_post (w : World) (s : Sl) (q : IntKind) (i : Int) (h0 : 0 ≤ i) (h1 : i ≤ s.n) : (Instr.slice 183 s.val (some (.int q i)) none none).run Tryz.prog w = .ok (s.post i.toNat 3).val w :=
  run_slice_post w Tryz.underlying183 (fun w => by kernel_rfl) s q i h0 h1
@[go_sem] theorem slice_hits_pre (w : World) (s : Sl) (q : IntKind) (i : Int) (h0 : 0 ≤ i) (h1 : i ≤ s.c) : (Instr.slice 183 s.val none (some (.int q i)) none).run Tryz.prog w = .ok (s.pre i.toNat).val w :=
  run_slice_pre (k := 3) w Tryz.underlying183 (fun w => by kernel_rfl) s q i h0 h1
def nzB (r : List Int) : Bool := !(gt r 2 == 0)
def filTo (rows : List (List Int)) (j : Nat) : List (List Int) := (rows.take j).filter nzB
theorem filTo_succ (rows : List (List Int)) (j : Nat) (h : j < rows.length) : filTo rows (j + 1) = filTo rows j ++ (if nzB (rowAt rows j) = true then [rowAt rows j] else []) := by
  unfold filTo
  rw [List.take_add_one, List.getElem?_eq_getElem h, List.filter_append]
  have e : rowAt rows j = rows[j] := by simp [rowAt, h]
  rw [e]
  congr 1
  simp only [Option.toList_some]
  by_cases h : nzB rows[j] = true
  · rw [if_pos h, List.filter_cons_of_pos h]; rfl
  · rw [if_neg h, List.filter_cons_of_neg h]; rfl
theorem rowAt_snoc (a : List (List Int)) (r : List Int) (m : Nat) (h : m < a.length + 1) : rowAt (a ++ [r]) m = if m < a.length then rowAt a m else r := by
  unfold rowAt List.getD
  by_cases e : m < a.length
  · rw [if_pos e, List.getElem?_append_left e]
  · rw [if_neg e, List.getElem?_append_right (by omega), show m - a.length = 0 by omega]; rfl
theorem rows_ext {a b : List (List Int)} (hl : a.length = b.length) (h : ∀ m, m < a.length → rowAt a m = rowAt b m) : a = b := by
  apply List.ext_getElem hl
  intro m h1 h2
  have := h m h1
  simpa [rowAt, h1, h2] using this
/-- What stands behind the first rows may be written over. -/
theorem Rows'.pre_clear {w : World} {s : Sl} {cur F : List (List Int)} (h : Rows' w s 3 cur) (hi : F.length ≤ cur.length) (hF : ∀ m, m < F.length → rowAt cur m = rowAt F m) (vs : List Value) (hv : vs.length = (s.post F.length 3).n * 3) :
    Rows' (w.setCells (s.post F.length 3).b (s.post F.length 3).o vs) (s.pre F.length) 3 F := by
  cases s with
  | nil =>
    have hc : cur = [] := List.eq_nil_of_length_eq_zero h.len.symm
    subst hc
    have hf : F = [] := List.eq_nil_of_length_eq_zero (by simpa using hi)
    subst hf
    exact Rows'.nil _ _
  | mk b o n c =>
    have hn : n = cur.length := h.len
    have hc : n ≤ c := h.cap
    refine ⟨rfl, by show F.length ≤ c; omega, fun m hm => by rw [← hF m hm]; exact h.wid m (by omega), fun m j hm hj => ?_⟩
    have h1 := h.cell m j (by omega) hj
    rw [hF m hm] at h1
    simp only [Sl.pre, Sl.post, Sl.b, Sl.o, Sl.n] at h1 hv ⊢
    by_cases e : c = F.length
    · have : vs = [] := List.eq_nil_of_length_eq_zero (by rw [hv]; omega)
      subst this
      exact h1
    · rw [if_neg e, World.cell?_setCells_out b _ _ _ _ (fun _ _ => by
        show o + m * 3 + j < o + F.length * 3 ∨ o + F.length * 3 + vs.length ≤ o + m * 3 + j
        omega)]
      exact h1
end Go.Proofs.YtgobdndjemicjaaGreatDoor
