/-
  The walk of DeleteFunc at hits of nothing.
-/
import Derived.Test.YtmmkmhpchoelkaaDoorDel
namespace Go.Proofs.YtmmkmhpchoelkaaDoor
open Go Go.RowKit

theorem first_zero (rows : List (List Int)) : (∀ m, m < rows.length → (gt (rowAt rows m) 2 == 0) = false) ∨ ∃ k, k < rows.length ∧ (gt (rowAt rows k) 2 == 0) = true ∧ ∀ m, m < k → (gt (rowAt rows m) 2 == 0) = false := by
  have key : ∀ n, n ≤ rows.length → (∀ m, m < n → (gt (rowAt rows m) 2 == 0) = false) ∨ ∃ k, k < rows.length ∧ (gt (rowAt rows k) 2 == 0) = true ∧ ∀ m, m < k → (gt (rowAt rows m) 2 == 0) = false := by
    intro n
    induction n with
    | zero => intro _; left; intro m hm; omega
    | succ n ih =>
      intro hn
      rcases ih (by omega) with h | h
      · cases hz : (gt (rowAt rows n) 2 == 0) with
        | true => right; exact ⟨n, by omega, hz, h⟩
        | false =>
          left
          intro m hm
          by_cases e : m = n
          · subst e; exact hz
          · exact h m (by omega)
      · right; exact h
  exact key rows.length (Nat.le_refl _)
theorem filTo_all (rows : List (List Int)) (k : Nat) (hk : k ≤ rows.length) (h : ∀ m, m < k → (gt (rowAt rows m) 2 == 0) = false) : filTo rows k = rows.take k := by
  unfold filTo
  rw [List.filter_eq_self]
  intro r hr
  obtain ⟨m, hm, rfl⟩ := List.mem_iff_getElem.1 hr
  have hm' : m < k := by simp at hm; omega
  have := h m hm'
  have e : rowAt rows m = (rows.take k)[m] := by simp [rowAt, show m < rows.length by omega]
  rw [nzB, ← e, this]; rfl
theorem Sl.owns_at {s : Sl} (h : 0 < s.n) : s.owns s.b := by cases s with
  | nil => simp [Sl.n] at h
  | mk => rfl
theorem Sl.post_b (s : Sl) (i k : Nat) : (s.post i k).b = s.b := by cases s <;> rfl
theorem Room.post {w : World} {s : Sl} {k : Nat} (h : Room w s k) (i : Nat) (hi : i ≤ s.n) (hc : s.n ≤ s.c) : ∀ q, q < (s.post i k).n * k → (w.cell? ⟨(s.post i k).b, (s.post i k).o + q, none⟩).isSome = true ∧ w.frozen? ⟨(s.post i k).b, (s.post i k).o + q, none⟩ = false := by
  intro q hq
  cases s with
  | nil => simp [Sl.post, Sl.n] at hq
  | mk b o n c =>
    simp only [Sl.post, Sl.n, Sl.c, Sl.b, Sl.o] at *
    by_cases e : c = i
    · have : n - i = 0 := by omega
      rw [this] at hq; omega
    · rw [if_neg e]
      have hk : (n - i) * k + i * k ≤ c * k := by
        rw [← Nat.add_mul]; exact Nat.mul_le_mul_right _ (by omega)
      have := h.there (i * k + q) (by show i * k + q < c * k; omega)
      simp only [Sl.b, Sl.o] at this
      rw [← Nat.add_assoc] at this; exact this
set_option maxRecDepth 100000 in
set_option maxHeartbeats 2000000 in
theorem delete_any (w : World) (s : Sl) (rows : List (List Int)) (R : Rows' w s 3 rows) (O : Room w s 3) (hb : rows.length ≤ 4194304) :
    Calls Tryd.prog 36 #[s.val, .func (.func 37) #[] #[]] w fun e w' => ∃ s' : Sl, e = .returned s'.val ∧ Rows' w' s' 3 (rows.filter nzB) ∧ Kept s.owns w w' := by
  have hsn := R.len
  have hsc := R.cap
  have HR := Lib.hid R
  have HO := Lib.hid O
  clear R O
  rcases first_zero rows with hall | ⟨k0, hk0, hz0, hall⟩
  · have hf : rows.filter nzB = rows := by
      have := filTo_all rows rows.length (Nat.le_refl _) hall
      rw [filTo, List.take_length] at this; exact this
    have HI : Hid (∀ W, Grow w W → Calls Tryd.prog 65 #[s.val, .func (.func 37) #[] #[]] W fun e w' => e = .returned (.int .i64 (-1)) ∧ Grow W w') := fun W g => idx_none W s rows (HR.out.grow g) hb hall
    have HF := Lib.hid hf
    clear hall hf
    go_enter Tryd.func36, Tryd.ntmps36
    go_wp2_with (go_at_call 65; refine (HI.out _ (by repeat (first | exact Grow.refl _ | refine Grow.andr ?_ | refine Grow.plus ?_ _ | refine Grow.alloc ?_ _ | refine Grow.drew ?_ | refine Grow.drewN ?_ _))).mono ?_; rintro e' w' ⟨rfl, nx, rfl⟩)
    go_ret
    exact ⟨s, rfl, by rw [HF.out]; exact HR.out.grow (by repeat (first | exact Grow.refl _ | refine Grow.andr ?_ | refine Grow.plus ?_ _ | refine Grow.alloc ?_ _ | refine Grow.drew ?_ | refine Grow.drewN ?_ _)), Grow.kept _ (by repeat (first | exact Grow.refl _ | refine Grow.andr ?_ | refine Grow.plus ?_ _ | refine Grow.alloc ?_ _ | refine Grow.drew ?_ | refine Grow.drewN ?_ _))⟩
  · have HI : Hid (∀ W, Grow w W → Calls Tryd.prog 65 #[s.val, .func (.func 37) #[] #[]] W fun e w' => e = .returned (.int .i64 (k0 : Int)) ∧ Grow W w') := fun W g => idx_some W s rows (HR.out.grow g) hb k0 hk0 hz0 hall
    have hne : ((k0 : Int) == -1) = false := beq_eq_false_iff_ne.2 (by omega)
    have hf0 : filTo rows (k0 + 1) = rows.take k0 := by
      rw [filTo_succ rows k0 hk0, filTo_all rows k0 (by omega) hall]
      simp [nzB, hz0]
    have HF0 := Lib.hid hf0
    clear hall hz0 hf0
    go_enter Tryd.func36, Tryd.ntmps36
    go_wp2_with (go_at_call 65; refine (HI.out _ (by repeat (first | exact Grow.refl _ | refine Grow.andr ?_ | refine Grow.plus ?_ _ | refine Grow.alloc ?_ _ | refine Grow.drew ?_ | refine Grow.drewN ?_ _))).mono ?_; rintro e' w' ⟨rfl, nx, rfl⟩)
    go_loopw [5, 6] (fun iv jv wr => ∃ (j : Nat) (cur : List (List Int)), j ≤ rows.length ∧ jv = .int .i64 j ∧ iv = .int .i64 ((filTo rows j).length : Nat) ∧ (filTo rows j).length < j ∧ Hid (Rows' wr s 3 cur ∧ Room wr s 3 ∧ cur.length = rows.length ∧ (∀ m, m < (filTo rows j).length → rowAt cur m = rowAt (filTo rows j) m) ∧ (∀ m, j ≤ m → m < rows.length → rowAt cur m = rowAt rows m) ∧ Kept s.owns w wr)) (fun _ jv _ => rows.length - (intOf jv).toNat)
    case atStart =>
      refine ⟨k0 + 1, rows, by omega, by go_num, ?_, ?_, HR.out.grow (by repeat (first | exact Grow.refl _ | refine Grow.andr ?_ | refine Grow.plus ?_ _ | refine Grow.alloc ?_ _ | refine Grow.drew ?_ | refine Grow.drewN ?_ _)), HO.out.grow (by repeat (first | exact Grow.refl _ | refine Grow.andr ?_ | refine Grow.plus ?_ _ | refine Grow.alloc ?_ _ | refine Grow.drew ?_ | refine Grow.drewN ?_ _)), rfl, ?_, fun _ _ _ => rfl, Grow.kept _ (by repeat (first | exact Grow.refl _ | refine Grow.andr ?_ | refine Grow.plus ?_ _ | refine Grow.alloc ?_ _ | refine Grow.drew ?_ | refine Grow.drewN ?_ _))⟩
      · rw [HF0.out, List.length_take]; simp; omega
      · rw [HF0.out, List.length_take]; omega
      · intro m hm
        rw [HF0.out] at hm ⊢
        rw [List.length_take] at hm
        simp [rowAt, show m < k0 by omega]
    case round =>
      obtain ⟨j, cur, hj, rfl, rfl, hij, HV⟩ := hrel
      by_cases hlt : j < rows.length
      · obtain ⟨q1, q2, q3, q4, _⟩ := HV.out.1.at (by decide) j (by rw [HV.out.2.2.1]; exact hlt)
        rw [HV.out.2.2.2.2.1 j (Nat.le_refl _) hlt] at q2 q4
        have HST := Lib.hid (filTo_succ rows j hlt)
        have HST := Lib.hid (filTo_succ rows j hlt)
        have HALL := Lib.hid HV.out
        generalize hrow : rowAt rows j = row at *
        have HROW := Lib.hid hrow
        clear hrow
        generalize hF : filTo rows j = F at *
        have HFF := Lib.hid hF
        clear hF
        have hil : F.length < rows.length := by omega
        have hil' : (F.length : Int) < rows.length := by omega
        cases hz : (gt row 2 == 0) with
        | true =>
          have HST2 : Hid (filTo rows (j + 1) = F) := by rw [Hid, HST.out, nzB, hz]; simp
          clear HST
          go_wp2_with (go_at_call 37; refine (zero_any _ row q2).mono ?_; rintro e' w' ⟨rfl, nz, rfl⟩)
          go_roundw
          case rel =>
            refine ⟨j + 1, cur, by omega, by go_num, by rw [HST2.out], by rw [HST2.out]; omega, HALL.out.1.grow (by repeat (first | exact Grow.refl _ | refine Grow.andr ?_ | refine Grow.plus ?_ _ | refine Grow.alloc ?_ _ | refine Grow.drew ?_ | refine Grow.drewN ?_ _)), HALL.out.2.1.grow (by repeat (first | exact Grow.refl _ | refine Grow.andr ?_ | refine Grow.plus ?_ _ | refine Grow.alloc ?_ _ | refine Grow.drew ?_ | refine Grow.drewN ?_ _)), HALL.out.2.2.1, by rw [HST2.out]; exact HALL.out.2.2.2.1, fun m h1 h2 => HALL.out.2.2.2.2.1 m (by omega) h2, HALL.out.2.2.2.2.2.trans (o2 := fun _ => False) (Grow.kept _ (show Grow wr _ from (by repeat (first | exact Grow.refl _ | refine Grow.andr ?_ | refine Grow.plus ?_ _ | refine Grow.alloc ?_ _ | refine Grow.drew ?_ | refine Grow.drewN ?_ _)))) (fun _ _ h => h.elim)⟩
          case measure => simp [intOf]; omega
        | false =>
          have HST2 : Hid (filTo rows (j + 1) = F ++ [row]) := by rw [Hid, HST.out, nzB, hz]; simp
          clear HST
          go_wp2_with (go_at_call 37; refine (zero_any _ row q2).mono ?_; rintro e' w' ⟨rfl, nz, rfl⟩; have hth : ((wr.alloc (.cells (cellsOf row) 54)).plus nz).there s.b (s.o + F.length * 3) 3 := fun q hq => (by have := (HALL.out.2.1.grow (show Grow wr ((wr.alloc (.cells (cellsOf row) 54)).plus nz) from (by repeat (first | exact Grow.refl _ | refine Grow.andr ?_ | refine Grow.plus ?_ _ | refine Grow.alloc ?_ _ | refine Grow.drew ?_ | refine Grow.drewN ?_ _)))).there (F.length * 3 + q) (by omega); rw [← Nat.add_assoc] at this; exact this))
          have hsb : s.owns s.b := Sl.owns_at (by omega)
          have R1 := HALL.out.1.grow (show Grow wr ((wr.alloc (.cells (cellsOf row) 54)).plus nz) from (by repeat (first | exact Grow.refl _ | refine Grow.andr ?_ | refine Grow.plus ?_ _ | refine Grow.alloc ?_ _ | refine Grow.drew ?_ | refine Grow.drewN ?_ _)))
          have O1 := HALL.out.2.1.grow (show Grow wr ((wr.alloc (.cells (cellsOf row) 54)).plus nz) from (by repeat (first | exact Grow.refl _ | refine Grow.andr ?_ | refine Grow.plus ?_ _ | refine Grow.alloc ?_ _ | refine Grow.drew ?_ | refine Grow.drewN ?_ _)))
          have hcl := HALL.out.2.2.1
          go_roundw
          case rel =>
            refine ⟨j + 1, cur.set F.length row, by omega, by go_num, by rw [HST2.out]; simp, by rw [HST2.out]; simp; omega, R1.put (by omega) q2, O1.put _ _ (by omega) (by rw [List.length_map, q2]; omega), by rw [List.length_set]; exact hcl, fun m hm => ?_, fun m h1 h2 => ?_, Kept.setCells s.b (fun _ => hsb) _ _ _ (HALL.out.2.2.2.2.2.trans (o2 := fun _ => False) (Grow.kept _ (show Grow wr _ from (by repeat (first | exact Grow.refl _ | refine Grow.andr ?_ | refine Grow.plus ?_ _ | refine Grow.alloc ?_ _ | refine Grow.drew ?_ | refine Grow.drewN ?_ _)))) (fun _ _ h => h.elim))⟩
            · rw [HST2.out] at hm ⊢
              rw [List.length_append] at hm
              rw [rowAt_set _ _ _ _ (by omega), rowAt_snoc _ _ _ hm]
              by_cases e : F.length = m
              · rw [if_pos e, if_neg (by omega)]
              · rw [if_neg e, if_pos (by simp at hm; omega)]
                exact HALL.out.2.2.2.1 m (by simp at hm; omega)
            · rw [rowAt_set _ _ _ _ (by omega), if_neg (by omega)]
              exact HALL.out.2.2.2.2.1 m (by omega) h2
          case measure => simp [intOf]; omega
      · have hjl : j = rows.length := by omega
        have hFF : filTo rows j = rows.filter nzB := by rw [hjl, filTo, List.take_length]
        have HALL := Lib.hid HV.out
        clear HV
        generalize filTo rows j = F at *
        have HFF := Lib.hid hFF
        clear hFF
        have hil : F.length ≤ s.n := by omega
        have hil' : F.length ≤ rows.length := by omega
        have hic2 : F.length ≤ s.c := by omega
        have hic' : (F.length : Int) ≤ s.c := by omega
        have hpo := HALL.out.2.1.post F.length (by omega) hsc
        have HPO := Lib.hid hpo
        clear hpo
        go_wp2_with fail
        rw [run_clear_rows wr 51 54 _ (.agg (cellsOf [0, 0, 0])) Tryd.underlying51 (fun w => by kernel_rfl) (oneCell_cells [0, 0, 0]) 3 rfl (by decide) (s.post F.length 3) (fun q hq => (HPO.out q hq).1) (fun q hq => (HPO.out q hq).2)]
        rename (∀ a w, _ → _) => hK
        refine hK _ _ ?_
        clear hK
        go_wp2_with fail
        go_ret
        have hsb : s.owns s.b := Sl.owns_at (by omega)
        refine ⟨s.pre F.length, rfl, ?_, ?_⟩
        · rw [← HFF.out]
          exact HALL.out.1.pre_clear (by rw [HALL.out.2.2.1]; omega) HALL.out.2.2.2.1 _ (by rw [Array.length_toList, size_zeroCells]; rfl)
        · exact Kept.setCells _ (fun _ => by rw [Sl.post_b]; exact hsb) _ _ _ HALL.out.2.2.2.2.2
end Go.Proofs.YtmmkmhpchoelkaaDoor
