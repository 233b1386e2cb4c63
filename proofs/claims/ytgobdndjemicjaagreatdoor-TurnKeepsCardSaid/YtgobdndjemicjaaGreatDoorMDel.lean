/-
  Rows of hits: those of nothing are deleted, in place.
  The walk of DeleteFunc at hits of nothing.
-/
import Derived.Test.YtgobdndjemicjaaGreatDoorMIdx
namespace Go.Proofs.YtgobdndjemicjaaGreatDoor
open Go Go.RowKit

/-! ### A row stored into a slice -/
theorem Rows'.put {w : World} {s : Sl} {k : Nat} {l : List (List Int)} (h : Rows' w s k l) {i : Nat} (hi : i < l.length) {r : List Int} (hr : r.length = k) : Rows' (w.setCells s.b (s.o + i * k) (r.map I)) s k (l.set i r) := by
  have hth : ∀ q, q < (r.map I).length → (w.cell? ⟨s.b, s.o + i * k + q, none⟩).isSome = true := fun q hq => by
    rw [h.cell i q hi (by rw [List.length_map, hr] at hq; exact hq)]; rfl
  have hrow : ∀ m, rowAt (l.set i r) m = if i = m then r else rowAt l m := fun m => rowAt_set l i m r hi
  refine ⟨by rw [List.length_set]; exact h.len, h.cap, fun m hm => ?_, fun m j hm hj => ?_⟩
  · rw [List.length_set] at hm
    rw [hrow]
    split
    · exact hr
    · exact h.wid m hm
  · rw [List.length_set] at hm
    rw [hrow]
    by_cases e : i = m
    · subst e
      rw [if_pos rfl]
      have := World.cell?_setCells_in s.b (r.map I) (s.o + i * k) w hth j (by rw [List.length_map, hr]; exact hj)
      rw [this]
      simp [gt, hr, hj]
    · rw [if_neg e]
      have hb : m * k + k ≤ i * k ∨ i * k + k ≤ m * k := by
        rcases Nat.lt_or_gt_of_ne e with h1 | h1
        · right
          have : (i + 1) * k ≤ m * k := Nat.mul_le_mul_right _ h1
          rw [Nat.add_mul] at this; omega
        · left
          have : (m + 1) * k ≤ i * k := Nat.mul_le_mul_right _ h1
          rw [Nat.add_mul] at this; omega
      rw [World.cell?_setCells_out s.b _ _ _ _ (fun _ _ => by
        show s.o + m * k + j < s.o + i * k ∨ s.o + i * k + (r.map I).length ≤ s.o + m * k + j
        rw [List.length_map, hr]; omega)]
      exact h.cell m j hm hj
theorem Room.put {w : World} {s : Sl} {k : Nat} (h : Room w s k) (o : Nat) (vs : List Value) (ho : s.o ≤ o) (hv : o + vs.length ≤ s.o + s.c * k) : Room (w.setCells s.b o vs) s k := by
  refine ⟨h.max, fun j hj => ?_⟩
  obtain ⟨t1, t2⟩ := h.there j hj
  rw [World.frozen?_setCells]
  refine ⟨?_, t2⟩
  by_cases hin : o ≤ s.o + j ∧ s.o + j < o + vs.length
  · have := World.cell?_setCells_in s.b vs o w (fun q hq => by
      have := (h.there (o - s.o + q) (by omega)).1
      rw [show s.o + (o - s.o + q) = o + q by omega] at this; exact this) (s.o + j - o) (by omega)
    rw [show s.o + j = o + (s.o + j - o) by omega, this]; rfl
  · rw [World.cell?_setCells_out s.b _ _ _ _ (fun _ _ => by show s.o + j < o ∨ o + vs.length ≤ s.o + j; omega)]
    exact t1
def Sl.pre (s : Sl) (i : Nat) : Sl := match s with
  | .nil => .nil
  | .mk b o _ c => .mk b o i c
def Sl.post (s : Sl) (l k : Nat) : Sl := match s with
  | .nil => .nil
  | .mk b o n c => .mk b (if c = l then o else o + l * k) (n - l) (c - l)
section
variable {P : Program} (w : World)
theorem run_slice_post {t e : TypeId} {k : Nat} (ht : P.underlying t = some (.slice e)) (hk : ∀ w, (sizeOf e).run P w = .ok k w) (s : Sl) (q : IntKind) (i : Int) (h0 : 0 ≤ i) (h1 : i ≤ s.n) :
    (Instr.slice t s.val (some (.int q i)) none none).run P w = .ok (s.post i.toNat k).val w := by
  cases s with
  | nil =>
    have : i = 0 := by simp [Sl.n] at h1; omega
    subst this
    simp [Instr.slice, Sl.val, Sl.post, run_underlying ht, hk, Instr.sliceBounds, run_sliceBound]
  | mk b o n c =>
    simp only [Sl.n] at h1
    simp only [Instr.slice, Sl.val, Sl.post, Sem.run_bind, run_underlying ht, Result.andThen_ok, Instr.sliceBounds, Sem.run_pure, run_sliceBound w q i n _ h0 h1, hk]
    split <;> simp [Addr.add]
theorem run_slice_pre {t e : TypeId} {k : Nat} (ht : P.underlying t = some (.slice e)) (hk : ∀ w, (sizeOf e).run P w = .ok k w) (s : Sl) (q : IntKind) (i : Int) (h0 : 0 ≤ i) (h1 : i ≤ s.c) :
    (Instr.slice t s.val none (some (.int q i)) none).run P w = .ok (s.pre i.toNat).val w := by
  have hi : (i.toNat : Int) = i := Int.toNat_of_nonneg h0
  cases s with
  | nil =>
    have : i = 0 := by simp [Sl.c] at h1; omega
    subst this
    simp [Instr.slice, Sl.val, Sl.pre, run_underlying ht, hk, Instr.sliceBounds, run_sliceBound]
  | mk b o n c =>
    simp only [Sl.c] at h1
    simp only [Instr.slice, Sl.val, Sl.pre, Sem.run_bind, run_underlying ht, Result.andThen_ok, Instr.sliceBounds, Sem.run_pure, run_sliceBound w q i c _ h0 h1, hk]
    split <;> simp [Addr.add]
end
theorem run_clear_rows {P : Program} (w : World) (t e ty : TypeId) (z : Value) (ht : P.underlying t = some (.slice e)) (hv : ∀ w, (zeroValue e).run P w = .ok z w) (h1 : z.cells.all (·.oneCell') = true) (k : Nat) (hk : z.cells.size = k) (hk0 : 0 < k) (s : Sl)
    (hc : ∀ j, j < s.n * k → (w.cell? ⟨s.b, s.o + j, none⟩).isSome = true) (hf : ∀ j, j < s.n * k → w.frozen? ⟨s.b, s.o + j, none⟩ = false) :
    (Builtin.clear_ #[t] ty #[s.val]).run P w = .ok (.tuple #[]) (w.setCells s.b s.o (Builtin.zeroCells z.cells s.n).toList) := by
  subst hk
  cases s with
  | nil => simp [Builtin.clear_, Sl.val, Sl.n, run_underlying ht, Builtin.zeroCells, World.setCells]
  | mk b o n c =>
    simp only [Sl.n, Sl.b, Sl.o] at hc hf ⊢
    cases n with
    | zero => simp [Builtin.clear_, Sl.val, run_underlying ht, Builtin.zeroCells, World.setCells]
    | succ m =>
      have hsz : (Builtin.zeroCells z.cells (m + 1)).toList.length = (m + 1) * z.cells.size := by rw [Array.length_toList, size_zeroCells]
      have hst := run_storeCells_cells (P := P) b o (Builtin.zeroCells z.cells (m + 1)).toList 0 w (by intro j hj; rw [hsz] at hj; exact hc j hj) (by intro j hj; rw [hsz] at hj; exact hf j hj) (by
        intro v hv'
        have hz : v ∈ z.cells.toList := by
          simp only [Builtin.zeroCells, Array.mem_toList_iff, Array.mem_map, Array.mem_range] at hv'
          obtain ⟨j, hj, rfl⟩ := hv'
          rw [getElem!_pos z.cells (j % z.cells.size) (Nat.mod_lt _ hk0)]
          simp
        rw [Array.all_eq_true_iff_forall_mem] at h1
        exact h1 v (by simpa using hz))
      simp only [Nat.add_zero] at hst
      simp [Builtin.clear_, Sl.val, run_underlying ht, hv, hst]
@[go_sem] theorem run_storeM_Hit (w : World) (b o : Nat) (c : List Int) (hc : c.length = 3) (ht : w.there b o 3) : (stRow 185 (.pointer (some ⟨b, o, none⟩)) (.agg (cellsOf c))).run Tryz.prog w = .ok .skip (w.setCells b o (c.map I)) := by
  unfold stRow
  rw [Sem.run_bind, run_storeAt_mid (P := Tryz.prog) w b o 185 (cellsOf c) (by rw [cellsOf_size, hc]; exact ht) (by rw [cellsOf_size, hc]; kernel_rfl) (oneCell_cells c)]
  rfl
@[go_sem] theorem slice_hits_post (w : World) (s : Sl) (q : IntKind) (i : Int) (h0 : 0 ≤ i) (h1 : i ≤ s.n) : (Instr.slice 183 s.val (some (.int q i)) none none).run Tryz.prog w = .ok (s.post i.toNat 3).val w :=
  run_slice_post w Tryz.underlying183 (fun w => by kernel_rfl) s q i h0 h1
@[go_sem] theorem slice_hits_pre (w : World) (s : Sl) (q : IntKind) (i : Int) (h0 : 0 ≤ i) (h1 : i ≤ s.c) : (Instr.slice 183 s.val none (some (.int q i)) none).run Tryz.prog w = .ok (s.pre i.toNat).val w :=
  run_slice_pre (k := 3) w Tryz.underlying183 (fun w => by kernel_rfl) s q i h0 h1
def nzB (r : List Int) : Bool := !(gt r 2 == 0)
def filTo (rows : List (List Int)) (j : Nat) : List (List Int) := (rows.take j).filter nzB
theorem filTo_succ (rows : List (List Int)) (j : Nat) (h : j < rows.length) : filTo rows (j + 1) = filTo rows j ++ (if nzB (rowAt rows j) = true then [rowAt rows j] else []) := by
  unfold filTo
  rw [List.take_add_one, List.getElem?_eq_getElem h, List.filter_append]
  have e : rowAt rows j = rows[j] := by simp [rowAt, h]
  rw [e]
  congr 1
  simp only [Option.toList_some]
  by_cases h : nzB rows[j] = true
  · rw [if_pos h, List.filter_cons_of_pos h]; rfl
  · rw [if_neg h, List.filter_cons_of_neg h]; rfl
theorem rowAt_snoc (a : List (List Int)) (r : List Int) (m : Nat) (h : m < a.length + 1) : rowAt (a ++ [r]) m = if m < a.length then rowAt a m else r := by
  unfold rowAt List.getD
  by_cases e : m < a.length
  · rw [if_pos e, List.getElem?_append_left e]
  · rw [if_neg e, List.getElem?_append_right (by omega), show m - a.length = 0 by omega]; rfl
/-- What stands behind the first rows may be written over. -/
theorem Rows'.pre_clear {w : World} {s : Sl} {cur F : List (List Int)} (h : Rows' w s 3 cur) (hi : F.length ≤ cur.length) (hF : ∀ m, m < F.length → rowAt cur m = rowAt F m) (vs : List Value) (hv : vs.length = (s.post F.length 3).n * 3) :
    Rows' (w.setCells (s.post F.length 3).b (s.post F.length 3).o vs) (s.pre F.length) 3 F := by
  cases s with
  | nil =>
    have hc : cur = [] := List.eq_nil_of_length_eq_zero h.len.symm
    subst hc
    have hf : F = [] := List.eq_nil_of_length_eq_zero (by simpa using hi)
    subst hf
    exact Rows'.nil _ _
  | mk b o n c =>
    have hn : n = cur.length := h.len
    have hc : n ≤ c := h.cap
    refine ⟨rfl, by show F.length ≤ c; omega, fun m hm => by rw [← hF m hm]; exact h.wid m (by omega), fun m j hm hj => ?_⟩
    have h1 := h.cell m j (by omega) hj
    rw [hF m hm] at h1
    simp only [Sl.pre, Sl.post, Sl.b, Sl.o, Sl.n] at h1 hv ⊢
    by_cases e : c = F.length
    · have : vs = [] := List.eq_nil_of_length_eq_zero (by rw [hv]; omega)
      subst this
      exact h1
    · rw [if_neg e, World.cell?_setCells_out b _ _ _ _ (fun _ _ => by
        show o + m * 3 + j < o + F.length * 3 ∨ o + F.length * 3 + vs.length ≤ o + m * 3 + j
        omega)]
      exact h1
end Go.Proofs.YtgobdndjemicjaaGreatDoor
namespace Go.Proofs.YtgobdndjemicjaaGreatDoor
open Go Go.RowKit

theorem first_zero (rows : List (List Int)) : (∀ m, m < rows.length → (gt (rowAt rows m) 2 == 0) = false) ∨ ∃ k, k < rows.length ∧ (gt (rowAt rows k) 2 == 0) = true ∧ ∀ m, m < k → (gt (rowAt rows m) 2 == 0) = false := by
  have key : ∀ n, n ≤ rows.length → (∀ m, m < n → (gt (rowAt rows m) 2 == 0) = false) ∨ ∃ k, k < rows.length ∧ (gt (rowAt rows k) 2 == 0) = true ∧ ∀ m, m < k → (gt (rowAt rows m) 2 == 0) = false := by
    intro n
    induction n with
    | zero => intro _; left; intro m hm; omega
    | succ n ih =>
      intro hn
      rcases ih (by omega) with h | h
      · cases hz : (gt (rowAt rows n) 2 == 0) with
        | true => right; exact ⟨n, by omega, hz, h⟩
        | false =>
          left
          intro m hm
          by_cases e : m = n
          · subst e; exact hz
          · exact h m (by omega)
      · right; exact h
  exact key rows.length (Nat.le_refl _)
theorem filTo_all (rows : List (List Int)) (k : Nat) (hk : k ≤ rows.length) (h : ∀ m, m < k → (gt (rowAt rows m) 2 == 0) = false) : filTo rows k = rows.take k := by
  unfold filTo
  rw [List.filter_eq_self]
  intro r hr
  obtain ⟨m, hm, rfl⟩ := List.mem_iff_getElem.1 hr
  have hm' : m < k := by simp at hm; omega
  have := h m hm'
  have e : rowAt rows m = (rows.take k)[m] := by simp [rowAt, show m < rows.length by omega]
  rw [nzB, ← e, this]; rfl
theorem Sl.owns_at {s : Sl} (h : 0 < s.n) : s.owns s.b := by cases s with
  | nil => simp [Sl.n] at h
  | mk => rfl
theorem Sl.post_b (s : Sl) (i k : Nat) : (s.post i k).b = s.b := by cases s <;> rfl
theorem Room.post {w : World} {s : Sl} {k : Nat} (h : Room w s k) (i : Nat) (hi : i ≤ s.n) (hc : s.n ≤ s.c) : ∀ q, q < (s.post i k).n * k → (w.cell? ⟨(s.post i k).b, (s.post i k).o + q, none⟩).isSome = true ∧ w.frozen? ⟨(s.post i k).b, (s.post i k).o + q, none⟩ = false := by
  intro q hq
  cases s with
  | nil => simp [Sl.post, Sl.n] at hq
  | mk b o n c =>
    simp only [Sl.post, Sl.n, Sl.c, Sl.b, Sl.o] at *
    by_cases e : c = i
    · have : n - i = 0 := by omega
      rw [this] at hq; omega
    · rw [if_neg e]
      have hk : (n - i) * k + i * k ≤ c * k := by
        rw [← Nat.add_mul]; exact Nat.mul_le_mul_right _ (by omega)
      have := h.there (i * k + q) (by show i * k + q < c * k; omega)
      simp only [Sl.b, Sl.o] at this
      rw [← Nat.add_assoc] at this; exact this
set_option maxRecDepth 100000 in
set_option maxHeartbeats 2000000 in
theorem delete_any (w : World) (s : Sl) (rows : List (List Int)) (R : Rows' w s 3 rows) (O : Room w s 3) (hb : rows.length ≤ 4194304) :
    Calls Tryz.prog 217 #[s.val, .func (.func 218) #[] #[]] w fun e w' => ∃ s' : Sl, e = .returned s'.val ∧ Rows' w' s' 3 (rows.filter nzB) ∧ Kept s.owns w w' ∧ ∀ b, s'.owns b → s.owns b := by
  have hsn := R.len
  have hsc := R.cap
  have HR := Lib.hid R
  have HO := Lib.hid O
  clear R O
  rcases first_zero rows with hall | ⟨k0, hk0, hz0, hall⟩
  · have hf : rows.filter nzB = rows := by
      have := filTo_all rows rows.length (Nat.le_refl _) hall
      rw [filTo, List.take_length] at this; exact this
    have HI : Hid (∀ W, Grow w W → Calls Tryz.prog 252 #[s.val, .func (.func 218) #[] #[]] W fun e w' => e = .returned (.int .i64 (-1)) ∧ Grow W w') := fun W g => idx_none W s rows (HR.out.grow g) hb hall
    have HF := Lib.hid hf
    clear hall hf
    go_enter Tryz.func217, Tryz.ntmps217
    go_wp2_with (go_at_call 252; refine (HI.out _ grI).mono ?_; rintro e' w' ⟨rfl, nx, rfl⟩)
    go_ret
    exact ⟨s, rfl, by rw [HF.out]; exact HR.out.grow grI, Grow.kept _ grI, fun _ h => h⟩
  · have HI : Hid (∀ W, Grow w W → Calls Tryz.prog 252 #[s.val, .func (.func 218) #[] #[]] W fun e w' => e = .returned (.int .i64 (k0 : Int)) ∧ Grow W w') := fun W g => idx_some W s rows (HR.out.grow g) hb k0 hk0 hz0 hall
    have hne : ((k0 : Int) == -1) = false := beq_eq_false_iff_ne.2 (by omega)
    have hf0 : filTo rows (k0 + 1) = rows.take k0 := by
      rw [filTo_succ rows k0 hk0, filTo_all rows k0 (by omega) hall]
      simp [nzB, hz0]
    have HF0 := Lib.hid hf0
    clear hall hz0 hf0
    go_enter Tryz.func217, Tryz.ntmps217
    go_wp2_with (go_at_call 252; refine (HI.out _ grI).mono ?_; rintro e' w' ⟨rfl, nx, rfl⟩)
    go_loopw [5, 6] (fun iv jv wr => ∃ (j : Nat) (cur : List (List Int)), j ≤ rows.length ∧ jv = .int .i64 j ∧ iv = .int .i64 ((filTo rows j).length : Nat) ∧ (filTo rows j).length < j ∧ Hid (Rows' wr s 3 cur ∧ Room wr s 3 ∧ cur.length = rows.length ∧ (∀ m, m < (filTo rows j).length → rowAt cur m = rowAt (filTo rows j) m) ∧ (∀ m, j ≤ m → m < rows.length → rowAt cur m = rowAt rows m) ∧ Kept s.owns w wr)) (fun _ jv _ => rows.length - (intOf jv).toNat)
    case atStart =>
      refine ⟨k0 + 1, rows, by omega, by go_num, ?_, ?_, HR.out.grow grI, HO.out.grow grI, rfl, ?_, fun _ _ _ => rfl, Grow.kept _ grI⟩
      · rw [HF0.out, List.length_take]; simp; omega
      · rw [HF0.out, List.length_take]; omega
      · intro m hm
        rw [HF0.out] at hm ⊢
        rw [List.length_take] at hm
        simp [rowAt, show m < k0 by omega]
    case round =>
      obtain ⟨j, cur, hj, rfl, rfl, hij, HV⟩ := hrel
      by_cases hlt : j < rows.length
      · obtain ⟨q1, q2, q3, q4, _⟩ := HV.out.1.at (by decide) j (by rw [HV.out.2.2.1]; exact hlt)
        rw [HV.out.2.2.2.2.1 j (Nat.le_refl _) hlt] at q2 q4
        have HST := Lib.hid (filTo_succ rows j hlt)
        have HST := Lib.hid (filTo_succ rows j hlt)
        have HALL := Lib.hid HV.out
        generalize hrow : rowAt rows j = row at *
        have HROW := Lib.hid hrow
        clear hrow
        generalize hF : filTo rows j = F at *
        have HFF := Lib.hid hF
        clear hF
        have hil : F.length < rows.length := by omega
        have hil' : (F.length : Int) < rows.length := by omega
        cases hz : (gt row 2 == 0) with
        | true =>
          have HST2 : Hid (filTo rows (j + 1) = F) := by rw [Hid, HST.out, nzB, hz]; simp
          clear HST
          go_wp2_with (go_at_call 218; refine (zero_any _ row q2).mono ?_; rintro e' w' ⟨rfl, nz, rfl⟩)
          go_roundw
          case rel =>
            refine ⟨j + 1, cur, by omega, by go_num, by rw [HST2.out], by rw [HST2.out]; omega, HALL.out.1.grow grI, HALL.out.2.1.grow grI, HALL.out.2.2.1, by rw [HST2.out]; exact HALL.out.2.2.2.1, fun m h1 h2 => HALL.out.2.2.2.2.1 m (by omega) h2, HALL.out.2.2.2.2.2.trans (o2 := fun _ => False) (Grow.kept _ (show Grow wr _ from grI)) (fun _ _ h => h.elim)⟩
          case measure => simp [intOf]; omega
        | false =>
          have HST2 : Hid (filTo rows (j + 1) = F ++ [row]) := by rw [Hid, HST.out, nzB, hz]; simp
          clear HST
          go_wp2_with (go_at_call 218; refine (zero_any _ row q2).mono ?_; rintro e' w' ⟨rfl, nz, rfl⟩; have hth : ((wr.alloc (.cells (cellsOf row) 185)).plus nz).there s.b (s.o + F.length * 3) 3 := fun q hq => (by have := (HALL.out.2.1.grow (show Grow wr ((wr.alloc (.cells (cellsOf row) 185)).plus nz) from grI)).there (F.length * 3 + q) (by omega); rw [← Nat.add_assoc] at this; exact this))
          have hsb : s.owns s.b := Sl.owns_at (by omega)
          have R1 := HALL.out.1.grow (show Grow wr ((wr.alloc (.cells (cellsOf row) 185)).plus nz) from grI)
          have O1 := HALL.out.2.1.grow (show Grow wr ((wr.alloc (.cells (cellsOf row) 185)).plus nz) from grI)
          have hcl := HALL.out.2.2.1
          go_roundw
          case rel =>
            refine ⟨j + 1, cur.set F.length row, by omega, by go_num, by rw [HST2.out]; simp, by rw [HST2.out]; simp; omega, R1.put (by omega) q2, O1.put _ _ (by omega) (by rw [List.length_map, q2]; omega), by rw [List.length_set]; exact hcl, fun m hm => ?_, fun m h1 h2 => ?_, Kept.setCells s.b (fun _ => hsb) _ _ _ (HALL.out.2.2.2.2.2.trans (o2 := fun _ => False) (Grow.kept _ (show Grow wr _ from grI)) (fun _ _ h => h.elim))⟩
            · rw [HST2.out] at hm ⊢
              rw [List.length_append] at hm
              rw [rowAt_set _ _ _ _ (by omega), rowAt_snoc _ _ _ hm]
              by_cases e : F.length = m
              · rw [if_pos e, if_neg (by omega)]
              · rw [if_neg e, if_pos (by simp at hm; omega)]
                exact HALL.out.2.2.2.1 m (by simp at hm; omega)
            · rw [rowAt_set _ _ _ _ (by omega), if_neg (by omega)]
              exact HALL.out.2.2.2.2.1 m (by omega) h2
          case measure => simp [intOf]; omega
      · have hjl : j = rows.length := by omega
        have hFF : filTo rows j = rows.filter nzB := by rw [hjl, filTo, List.take_length]
        have HALL := Lib.hid HV.out
        clear HV
        generalize filTo rows j = F at *
        have HFF := Lib.hid hFF
        clear hFF
        have hil : F.length ≤ s.n := by omega
        have hil' : F.length ≤ rows.length := by omega
        have hic2 : F.length ≤ s.c := by omega
        have hic' : (F.length : Int) ≤ s.c := by omega
        have hpo := HALL.out.2.1.post F.length (by omega) hsc
        have HPO := Lib.hid hpo
        clear hpo
        go_wp2_with fail
        rw [run_clear_rows wr 183 185 _ (.agg (cellsOf [0, 0, 0])) Tryz.underlying183 (fun w => by kernel_rfl) (oneCell_cells [0, 0, 0]) 3 rfl (by decide) (s.post F.length 3) (fun q hq => (HPO.out q hq).1) (fun q hq => (HPO.out q hq).2)]
        rename (∀ a w, _ → _) => hK
        refine hK _ _ ?_
        clear hK
        go_wp2_with fail
        go_ret
        have hsb : s.owns s.b := Sl.owns_at (by omega)
        refine ⟨s.pre F.length, rfl, ?_, ?_, fun b hb => by cases s <;> exact hb⟩
        · rw [← HFF.out]
          exact HALL.out.1.pre_clear (by rw [HALL.out.2.2.1]; omega) HALL.out.2.2.2.1 _ (by rw [Array.length_toList, size_zeroCells]; rfl)
        · exact Kept.setCells _ (fun _ => by rw [Sl.post_b]; exact hsb) _ _ _ HALL.out.2.2.2.2.2
end Go.Proofs.YtgobdndjemicjaaGreatDoor
