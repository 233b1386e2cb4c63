/-
  The walk of pay's count.
-/
import Derived.Test.YtondnigiepkobaaMemo
namespace Go.Proofs.Ytondnigiepkobaa
open Go Go.RowKit
open Go.ChangeMaps (setBlock)

@[go_sem ↓] theorem load_sought (ρ : Operand → Value) (dst : Option Tmp) (x : Operand) (ty : TypeId) (pos : String) (after : Array Edge) (guard : Option (Nat × Bool)) :
    execOp ρ { dst, op := .load 52 x, type := ty, pos, after, guard } = ldRow 52 (ρ x) := rfl
@[go_sem ↓] theorem store_sought (ρ : Operand → Value) (dst : Option Tmp) (x y : Operand) (ty : TypeId) (pos : String) (after : Array Edge) (guard : Option (Nat × Bool)) :
    execOp ρ { dst, op := .store 52 x y, type := ty, pos, after, guard } = stRow 52 (ρ x) (ρ y) := rfl
@[go_sem] theorem run_load_sought (w : World) (b : Nat) (h : (w.blk b).size = 8) : (ldRow 52 (.pointer (some ⟨b, 0, none⟩))).run Try.prog w = .ok (.value (.agg (w.blk b))) w :=
  run_ldRow w b 52 8 (by kernel_rfl) (by kernel_rfl) h (by omega)
@[go_sem] theorem run_store_sought (w : World) (b : Nat) (c : List Int) (h : (w.blk b).size = 8) (hc : c.length = 8) (hf : w.free b = true) : (stRow 52 (.pointer (some ⟨b, 0, none⟩)) (.agg (cellsOf c))).run Try.prog w = .ok .skip (w.setRow b (cellsOf c)) :=
  run_stRow w b 52 8 _ (by kernel_rfl) h (by rw [cellsOf_size, hc]) (by omega) hf (cellsOf_oneCell c)

theorem run_ldPart {P : Program} (w : World) (b o : Nat) (ty n : Nat) (hu : ((P.underlying ty).map TypeDesc.isRow).getD false = true) (hi : (P.info? ty).map (·.size) = some n) (h : o + n ≤ (w.blk b).size) (hn : n ≠ 0) :
    (ldRow ty (.pointer (some ⟨b, o, Option.none⟩))).run P w = .ok (.value (.agg ((w.blk b).extract o (o + n)))) w := by
  cases hd : P.underlying ty with
  | none => simp [hd] at hu
  | some d =>
    simp [hd] at hu
    unfold ldRow
    cases ho : w.heap[b]? with
    | none => simp [World.blk, ho] at h; omega
    | some q =>
      cases q <;> try (simp [World.blk, ho] at h; omega)
      rename_i c t f
      simp [World.blk, ho] at h
      rw [Sem.run_bind]
      have := run_loadAt_mid (P := P) w b o ty (c.extract o (o + n)).toList d (fun j v hv => by
        simp [World.cell?, ho]
        have hj : j < n := by
          have := (List.getElem?_eq_some_iff.1 hv).1
          simp at this; omega
        have h2 : (c.extract o (o + n))[j]? = some v := by rw [← Array.getElem?_toList]; exact hv
        rw [Array.getElem?_extract] at h2
        split at h2
        · exact h2
        · cases h2) hd hu (by simp [hi]; omega)
      rw [this]
      rw [Array.toArray_toList]
      have e : w.blk b = c := by simp [World.blk, ho]
      rw [e]
      rfl
theorem extract_cells (r : List Int) (a b : Int) (hr : r.length = 6) : (cellsOf (r ++ [a, b])).extract 0 6 = cellsOf r := by
  apply Array.ext'
  simp [cellsOf, ← hr]
@[go_sem] theorem run_load_Cost_part (w : World) (b : Nat) (h : (w.blk b).size = 8) : (ldRow 23 (.pointer (some ⟨b, 0, none⟩))).run Try.prog w = .ok (.value (.agg ((w.blk b).extract 0 6))) w :=
  run_ldPart w b 0 23 6 (by kernel_rfl) (by kernel_rfl) (by omega) (by omega)

def bdRow (t : TypeId) (parts : Array (Nat × Value)) : Sem Next := do pure (.value (← Instr.build t parts))
@[go_sem ↓] theorem build_sought (ρ : Operand → Value) (dst : Option Tmp) (parts : Array (Nat × Operand)) (ty : TypeId) (pos : String) (after : Array Edge) (guard : Option (Nat × Bool)) :
    execOp ρ { dst, op := .build 52 parts, type := ty, pos, after, guard } = bdRow 52 (parts.map fun (i, x) => (i, ρ x)) := rfl
theorem run_build_six (w : World) (r0 r1 r2 r3 r4 r5 a b : Int) : (bdRow 52 #[(0, .agg #[I r0, I r1, I r2, I r3, I r4, I r5]), (1, .int .i64 a), (2, .int .i64 b)]).run Try.prog w = .ok (.value (.agg #[I r0, I r1, I r2, I r3, I r4, I r5, I a, I b])) w := by
  unfold bdRow
  go_simp
  simp [cellsOf]
@[go_sem] theorem run_build_sought (w : World) (r : List Int) (a b : Int) (hr : r.length = 6) : (bdRow 52 #[(0, .agg (cellsOf r)), (1, .int .i64 a), (2, .int .i64 b)]).run Try.prog w = .ok (.value (.agg (cellsOf (r ++ [a, b])))) w := by
  match r, hr with
  | [r0, r1, r2, r3, r4, r5], _ => exact run_build_six w r0 r1 r2 r3 r4 r5 a b
@[go_sem] theorem set_sought (r : List Int) (a b x : Int) (i : Nat) (h : i < r.length) : (r ++ [a, b]).set i x = r.set i x ++ [a, b] := by
  rw [List.set_append, if_pos h]

theorem gt_sought (r : List Int) (a b : Int) (hr : r.length = 6) (i : Nat) : gt (r ++ [a, b]) i = if i < 6 then gt r i else if i = 6 then a else if i = 7 then b else 0 := by
  unfold gt List.getD
  rw [List.getElem?_append, hr]
  by_cases h : i < 6
  · rw [if_pos h, if_pos h]
  · rw [if_neg h, if_neg h]
    match i with
    | 6 => rfl
    | 7 => rfl
    | n + 8 => simp

/-- What is sought of the place before the last is plain. -/
theorem count_end (r : List Int) (left : Int) (hr : r.length = 6) (w : World) (m : Option Nat) :
    Calls Try.prog 23 #[.map m, .agg (cellsOf (r ++ [6, left]))] w fun e w' => e = .returned (.int .i64 (waysL [] left)) ∧ Grow w w' := by
  have hl : (r ++ [6, left]).length = 8 := by simp [hr]
  have h6 : gt (r ++ [6, left]) 6 = 6 := by simp [gt, hr]
  have h7 : gt (r ++ [6, left]) 7 = left := by simp [gt, hr]
  go_enter Try.func23, Try.ntmps23
  go_wp2_with fail
  · have h0 : Hid (left = 0) := by unfold Hid; simp_all
    go_ret
    exact ⟨by rw [h0.out]; rfl, (by repeat (first | exact Grow.refl _ | refine Grow.plus ?_ _ | refine Grow.alloc ?_ _ | refine Grow.drew ?_))⟩
  · have h0 : Hid (¬ left = 0) := by unfold Hid; simp_all
    go_ret
    exact ⟨by rw [waysL, if_neg h0.out]; rfl, (by repeat (first | exact Grow.refl _ | refine Grow.plus ?_ _ | refine Grow.alloc ?_ _ | refine Grow.drew ?_))⟩

theorem alloc_size' (w : World) (o : Obj) : (w.alloc o).heap.size = w.heap.size + 1 := by unfold World.alloc; exact Array.size_push _
theorem heap_chain (w : World) (b : Nat) (o p q : Obj) (x : Ext) (h : b < w.heap.size) : ((((setBlock w b o).alloc p).plus x).alloc q).heap[b]? = some o := by
  have h1 : b < (setBlock w b o).heap.size := by rw [setBlock_size]; exact h
  have h2 : b < ((setBlock w b o).alloc p).heap.size := by rw [alloc_size']; omega
  rw [heap_alloc_lt _ _ _ (by rw [plus_size]; omega), plus_heap _ _ _ h2, heap_alloc_lt _ _ _ h1, setBlock_get _ _ _ h]
theorem heap_chain2 (w : World) (b : Nat) (o p : Obj) (x : Ext) (h : b < w.heap.size) : (((setBlock w b o).alloc p).plus x).heap[b]? = some o := by
  have h1 : b < (setBlock w b o).heap.size := by rw [setBlock_size]; exact h
  rw [plus_heap _ _ _ (by rw [alloc_size']; omega), heap_alloc_lt _ _ _ h1, setBlock_get _ _ _ h]
theorem drop_top {r : List Int} (h : ∀ i, 0 ≤ gt r i ∧ gt r i ≤ 60) (k : Nat) : ∀ x, x ∈ r.drop k → x ≤ 60 := by
  intro x hx
  have hx := List.mem_of_mem_drop hx
  obtain ⟨i, hi, rfl⟩ := List.mem_iff_getElem.1 hx
  have := h i
  rw [gt_eq _ _ hi] at this
  omega
theorem drop_cons (r : List Int) (i : Nat) (h : i < r.length) : r.drop i = gt r i :: r.drop (i + 1) := by
  rw [gt_eq _ _ h, List.drop_eq_getElem_cons h]

set_option maxHeartbeats 2000000 in
theorem count_step (d : Nat) (ih : ∀ (r : List Int) (at' : Nat) (left : Int) (es : Array MapEntry) (clock n b : Nat) (w : World), r.length = 6 → at' + d = 6 → (∀ i, 0 ≤ gt r i ∧ gt r i ≤ 60) → 0 ≤ left → left ≤ 1000 → Memo es clock n → n + room d ≤ 1000000000 →
      w.heap[b]? = some (.map es clock) → Calls Try.prog 23 #[.map (some b), .agg (cellsOf (r ++ [(at' : Int), left]))] w fun e w' => e = .returned (.int .i64 (waysL (r.drop at') left)) ∧ ∃ es' clock' x, w' = (setBlock w b (.map es' clock')).plus x ∧ Memo es' clock' (n + room d))
    (r : List Int) (at' : Nat) (left : Int) (es : Array MapEntry) (clock n b : Nat) (w : World) (hr : r.length = 6) (hd : at' + (d + 1) = 6) (hg : ∀ i, 0 ≤ gt r i ∧ gt r i ≤ 60) (hl0 : 0 ≤ left) (hl1 : left ≤ 1000) (M : Memo es clock n) (hn : n + room (d + 1) ≤ 1000000000)
    (hb : w.heap[b]? = some (.map es clock)) :
    Calls Try.prog 23 #[.map (some b), .agg (cellsOf (r ++ [(at' : Int), left]))] w fun e w' => e = .returned (.int .i64 (waysL (r.drop at') left)) ∧ ∃ es' clock' x, w' = (setBlock w b (.map es' clock')).plus x ∧ Memo es' clock' (n + room (d + 1)) := by
  have HG := Lib.hid hg
  have IH := Lib.hid ih
  have HD := Lib.hid hd
  have hbl : b < w.heap.size := (Array.getElem?_eq_some_iff.1 hb).1
  have hl : (r ++ [(at' : Int), left]).length = 8 := by simp [hr]
  have h6 : gt (r ++ [(at' : Int), left]) 6 = at' := by simp [gt, hr]
  have h7 : gt (r ++ [(at' : Int), left]) 7 = left := by simp [gt, hr]
  have ha : at' < 6 := by omega
  have ha8 : at' < 8 := by omega
  have ha8' : at' < r.length + 2 := by omega
  have hgs : ∀ i, -9223372036854775808 ≤ gt (r ++ [(at' : Int), left]) i ∧ gt (r ++ [(at' : Int), left]) i ≤ 9223372036854775807 := fun i => by
    rw [gt_sought r _ _ hr]
    have := hg i
    (repeat' split) <;> omega
  have hww : -9223372036854775808 ≤ waysL (r.drop at') left ∧ waysL (r.drop at') left ≤ 9223372036854775807 := by
    have h1 := waysL_bd (r.drop at') left (drop_top hg at')
    have h2 := pow61 (k := (r.drop at').length) (by rw [List.length_drop]; omega)
    omega
  have hw1 : ∀ c, 0 ≤ waysL (r.drop (at' + 1)) c ∧ waysL (r.drop (at' + 1)) c ≤ 51520374361 := fun c => by
    have h1 := waysL_bd (r.drop (at' + 1)) c (drop_top hg _)
    have h2 := pow61 (k := (r.drop (at' + 1)).length) (by rw [List.length_drop]; omega)
    omega
  have HW1 := Lib.hid hw1
  have hw := memo_look (w := w.alloc (.cells (cellsOf (r ++ [(at' : Int), left])) 52)) M (by rw [heap_alloc_lt _ _ _ hbl]; exact hb) hr (at' := at') (left := left) hgs
  clear hg ih hd hw1
  rcases hw with hw | hw
  · go_enter Try.func23, Try.ntmps23
    go_wp2_with fail
    have hx := fun a b => extract_cells r a b hr
    have hr6 : gt (r ++ [(at' : Int), left]) at' = gt r at' := by rw [gt_sought _ _ _ hr, if_pos ha]
    have hra := HG.out at'
    go_loopw [7, 8, 9] (fun s i _ wr => ∃ k : Nat, k ≤ (if left < gt r at' then left else gt r at').toNat + 1 ∧ s = .int .i64 (sumF k fun j => waysL (r.drop (at' + 1)) (left - j)) ∧ i = .int .i64 k ∧
      ∃ es' clock' x, wr = ((setBlock w b (.map es' clock')).alloc (.cells (cellsOf (r ++ [(at' : Int), left])) 52)).plus x ∧ Memo es' clock' (n + k * room d)) (fun _ i _ _ => (if left < gt r at' then left else gt r at').toNat + 1 - (intOf i).toNat)
    case atStart => exact ⟨0, by omega, rfl, rfl, es, clock, Ext.none, by rw [setBlock_same _ _ _ hb, plus_none], by simpa using M⟩
    case round =>
      obtain ⟨k, hk, rfl, rfl, es2, clock2, x, rfl, M2⟩ := hrel
      by_cases hlt : (k : Int) ≤ (if left < gt r at' then left else gt r at')
      · go_wp2_with fail
        refine wp_region_grow (by kernel_rfl) (by kernel_rfl) ?_; (repeat (go_big_quiet_step ( fail ))); refine wpQuiet_nil ?_; rintro _ ⟨nx, rfl⟩
        have ht0 := HG.out at'
        have IH2 : ∀ W : World, W.heap[b]? = some (.map es2 clock2) → Calls Try.prog 23 #[.map (some b), .agg (cellsOf (r.set at' 0 ++ [(at' : Int) + 1, left - k]))] W fun e w' => e = .returned (.int .i64 (waysL (r.drop (at' + 1)) (left - k))) ∧ ∃ es' clock' x, w' = (setBlock W b (.map es' clock')).plus x ∧ Memo es' clock' (n + k * room d + room d) := by
          intro W hW
          have hk60 : k ≤ 60 := by split at hlt <;> omega
          have hkr : k * room d ≤ 60 * room d := Nat.mul_le_mul_right _ hk60
          have := IH.out (r.set at' 0) (at' + 1) (left - k) es2 clock2 (n + k * room d) b W (by simp [hr]) (by have := HD.out; omega) (fun i => by
            rw [gt_set _ _ _ _ (by omega)]
            have := HG.out i
            split <;> omega) (by split at hlt <;> omega) (by omega) M2 (by rw [room] at hn; omega) hW
          rw [List.drop_set_of_lt (by omega)] at this
          exact this
        have IH2 := Lib.hid IH2
        have HMUL : Hid (0 ≤ (sumF k fun j => waysL (r.drop (at' + 1)) (left - j)) ∧ (sumF k fun j => waysL (r.drop (at' + 1)) (left - j)) ≤ 3142742836021) := by
          have h1 := sumF_bd (fun j => waysL (r.drop (at' + 1)) (left - j)) 51520374361 k (fun j _ => HW1.out _)
          have hk60 : (k : Int) ≤ 61 := by split at hlt <;> omega
          have h2 : (k : Int) * 51520374361 ≤ 61 * 51520374361 := Int.mul_le_mul_of_nonneg_right hk60 (by omega)
          exact ⟨h1.1, by omega⟩
        have hwk := HW1.out (left - k)
        clear hww hgs
        go_wp2_with fail
        all_goals (go_at_call 23)
        all_goals (refine (IH2.out _ (heap_chain _ _ _ _ _ _ hbl)).mono ?_)
        all_goals (rintro e w' ⟨rfl, es3, clock3, x3, rfl, M3⟩)
        all_goals (have hm := HMUL.out)
        all_goals (go_wp2_with fail)
        all_goals (exact ⟨⟨k + 1, by omega, rfl, by omega, es3, clock3, ⟨_, by rw [plus_alloc, plus_plus]⟩, by rw [Nat.add_mul, Nat.one_mul, ← Nat.add_assoc]; exact M3⟩, by simp [intOf]; omega⟩)
      · have HW : Hid ((sumF k fun j => waysL (r.drop (at' + 1)) (left - j)) = waysL (r.drop at') left) := by
          have hk2 : k = (if left < gt r at' then left else gt r at').toNat + 1 := by omega
          rw [Hid, drop_cons r at' (by omega), waysL_upto _ _ _ hra.1, hk2]
        go_wp2_with fail
        refine wp_region_grow (by kernel_rfl) (by kernel_rfl) ?_; (repeat (go_big_quiet_step ( fail ))); refine wpQuiet_nil ?_; rintro _ ⟨nx, rfl⟩
        have hk60 : k ≤ 61 := by split at hk <;> omega
        have hkr : k * room d ≤ 61 * room d := Nat.mul_le_mul_right _ hk60
        obtain ⟨es3, clock3, hst, M3⟩ := memo_store (w := ((setBlock w b (.map es2 clock2)).alloc (.cells (cellsOf (r ++ [(at' : Int), left])) 52)).plus (x.and nx)) (at' := at') (left := left) M2 (by rw [room] at hn; unfold maxLen; omega) (heap_chain2 _ _ _ _ _ hbl) hr hgs hww
        rw [← HW.out] at hst
        clear hww hgs
        go_wp2_with fail
        all_goals go_ret
        all_goals (exact ⟨by rw [← HW.out]; rfl, es3, clock3, ((by repeat (first | exact Grow.refl _ | refine Grow.plus ?_ _ | refine Grow.alloc ?_ _ | refine Grow.drew ?_)) : Grow (setBlock w b (.map es3 clock3)) _), M3.mono (by rw [room]; omega)⟩)
  · go_enter Try.func23, Try.ntmps23
    go_wp2_with fail
    go_ret
    refine ⟨rfl, es, clock, ?_⟩
    rw [setBlock_same _ _ _ hb]
    obtain ⟨x, hx⟩ : Grow w (w.alloc (.cells (cellsOf (r ++ [(at' : Int), left])) 52)) := (by repeat (first | exact Grow.refl _ | refine Grow.plus ?_ _ | refine Grow.alloc ?_ _ | refine Grow.drew ?_))
    exact ⟨x, hx, M.mono (by omega)⟩

/-- What count answers, for any world with a good memory. -/
theorem count_any : ∀ (d : Nat) (r : List Int) (at' : Nat) (left : Int) (es : Array MapEntry) (clock n b : Nat) (w : World), r.length = 6 → at' + d = 6 → (∀ i, 0 ≤ gt r i ∧ gt r i ≤ 60) → 0 ≤ left → left ≤ 1000 → Memo es clock n → n + room d ≤ 1000000000 →
      w.heap[b]? = some (.map es clock) → Calls Try.prog 23 #[.map (some b), .agg (cellsOf (r ++ [(at' : Int), left]))] w fun e w' => e = .returned (.int .i64 (waysL (r.drop at') left)) ∧ ∃ es' clock' x, w' = (setBlock w b (.map es' clock')).plus x ∧ Memo es' clock' (n + room d)
  | 0, r, at', left, es, clock, n, b, w, hr, hd, hg, h0, h1, M, hn, hb => by
    have e : at' = 6 := by omega
    subst e
    refine (count_end r left hr w (some b)).mono ?_
    rintro e w' ⟨rfl, x, rfl⟩
    exact ⟨by rw [List.drop_of_length_le (by omega)], es, clock, x, by rw [setBlock_same _ _ _ hb], M.mono (by omega)⟩
  | d + 1, r, at', left, es, clock, n, b, w, hr, hd, hg, h0, h1, M, hn, hb => count_step d (count_any d) r at' left es clock n b w hr hd hg h0 h1 M hn hb
theorem room6 : room 6 = 858672906 := by rfl
end Go.Proofs.Ytondnigiepkobaa
