/-
  The walk of net's Invert: a range over slices.Backward.
-/
import Derived.Test.YtmmkmhpchoelkaaDoorRound
import Derived.Test.YtmmkmhpchoelkaaDoorEv2
import Derived.Test.YtmmkmhpchoelkaaDoorRun
namespace Go.Proofs.YtmmkmhpchoelkaaDoor
open Go Go.RowKit Go.Shelf
attribute [local go_sem] Oper.semAt_some

/-- A row of six numbers. -/
structure Row6 where
  l : List Int
  h : l.length = 6
/-- What a loop over slices.Backward is handed. -/
def encB (x : Nat × Row6) : Array Value := #[.int .i64 (x.1 : Int), .agg (cellsOf x.2.l)]
def row6 (l : List (List Int)) (i : Nat) (h : (rowAt l i).length = 6) : Row6 := ⟨rowAt l i, h⟩
/-- What has come when k rounds are over. -/
def downB (l : List (List Int)) (hw : ∀ i, i < l.length → (rowAt l i).length = 6) (k : Nat) : List (Nat × Row6) :=
  (List.range k).filterMap fun j => if h : l.length - 1 - j < l.length then some (l.length - 1 - j, row6 l (l.length - 1 - j) (hw _ h)) else none
theorem downB_succ (l : List (List Int)) (hw : ∀ i, i < l.length → (rowAt l i).length = 6) (k : Nat) (hk : k < l.length) : downB l hw (k + 1) = downB l hw k ++ [(l.length - 1 - k, row6 l (l.length - 1 - k) (hw _ (by omega)))] := by
  unfold downB
  rw [List.range_succ, List.filterMap_append]
  simp [show l.length - 1 - k < l.length by omega]
theorem downB_len (l : List (List Int)) (hw : ∀ i, i < l.length → (rowAt l i).length = 6) : ∀ k, k ≤ l.length → (downB l hw k).length = k
  | 0, _ => rfl
  | k + 1, h => by rw [downB_succ l hw k (by omega), List.length_append, downB_len l hw k (by omega)]; rfl
/-- The opposites of events, the last one first. -/
def invL (l : List (List Int)) : List (List Int) := (l.map evInvert).reverse
theorem downB_rows (l : List (List Int)) (hw : ∀ i, i < l.length → (rowAt l i).length = 6) : ∀ k, k ≤ l.length → (downB l hw k).map (fun x => evInvert x.2.l) = ((l.drop (l.length - k)).map evInvert).reverse
  | 0, _ => by simp [downB]
  | k + 1, h => by
    rw [downB_succ l hw k (by omega), List.map_append, downB_rows l hw k (by omega)]
    have e : l.drop (l.length - (k + 1)) = rowAt l (l.length - 1 - k) :: l.drop (l.length - k) := by
      rw [List.drop_eq_getElem_cons (by omega), show l.length - (k + 1) + 1 = l.length - k by omega]
      congr 1
      simp only [rowAt, List.getD, show l.length - 1 - k = l.length - (k + 1) by omega]
      rw [List.getElem?_eq_getElem (by omega)]; rfl
    rw [e, List.map_cons (f := evInvert), List.reverse_cons]
    rfl
theorem downB_all (l : List (List Int)) (hw : ∀ i, i < l.length → (rowAt l i).length = 6) : (downB l hw l.length).map (fun x => evInvert x.2.l) = invL l := by
  rw [downB_rows l hw _ (Nat.le_refl _), Nat.sub_self, List.drop_zero]; rfl

set_option maxRecDepth 100000 in
set_option maxHeartbeats 2000000 in
theorem backward1_in (n : Nat) (hn : 1 ≤ n) (lp Bs : Nat) (own : Nat → Prop) (s : Sl) (l : List (List Int)) (hw : ∀ i, i < l.length → (rowAt l i).length = 6) (hlen : l.length ≤ 1048576) (J Jx : List (Nat × Row6) → World → Prop) (hb : 0 < l.length → ¬ own s.b)
    (hY : ∀ pre x W, J pre W → pre.length < l.length → YieldAt Fence.wide (n - 1) Tryd.prog lp (encB x) W fun e W' =>
      (e = .returned (.bool true) ∧ J (pre ++ [x]) W' ∧ Kept own W W') ∨ (e = .returned (.bool false) ∧ Jx (pre ++ [x]) W'))
    (W : World) (hBs : W.cell? ⟨Bs, 0, none⟩ = some s.val) (hBn : ¬ own Bs) (R : Rows' W s 6 l) (h0 : J [] W) :
    CallsIn Fence.wide n Tryd.prog 120 #[.func (.yield lp) #[] #[], .pointer (some ⟨Bs, 0, none⟩)] W fun e W' => (∃ v, e = .returned v) ∧
      ((∃ ys, ys = downB l hw l.length ∧ J ys W') ∨ (∃ pre, (∃ k, k ≤ l.length ∧ pre = downB l hw k) ∧ Jx pre W')) := by
  have hsn := R.len
  refine callsIn_of_wp Tryd.func120 rfl trivial ?_ rfl
  simp only [Tryd.ntmps120, List.size_toArray, List.length_cons, List.length_nil, Nat.reduceAdd, Nat.reduceSub, Array.replicate_succ, Array.replicate_zero, List.push_toArray, List.append_toArray, List.nil_append, List.cons_append]
  have HR := Lib.hid R
  clear R
  gi_wp2
  gi_loopw [3] (fun i wr => ∃ k : Nat, k ≤ l.length ∧ i = .int .i64 ((l.length : Int) - 1 - k) ∧ J (downB l hw k) wr ∧ Kept own W wr)
    (fun i _ => (intOf i + 1).toNat)
  case atStart => exact ⟨0, Nat.zero_le _, by simp, h0, Kept.refl _ _⟩
  case round =>
    obtain ⟨k, hk, rfl, hJs, hnx⟩ := hrel
    by_cases hlt : k < l.length
    · obtain ⟨fn, tmps, assign, body, hy, hR⟩ := hY _ (l.length - 1 - k, row6 l (l.length - 1 - k) (hw _ (by omega))) wr hJs (by rw [downB_len l hw k hk]; exact hlt)
      obtain ⟨qb, qw, qsz, qsub, _⟩ := (HR.out.kept hnx hb).at (by omega) (l.length - 1 - k) (by omega)
      have hcs := (hnx.cell Bs 0 (cell_blk hBs).1 hBn).trans hBs
      have hi1 : (0 : Int) ≤ (l.length : Int) - 1 - k := by omega
      have hi2 : (l.length : Int) - 1 - k < s.n := by omega
      have hi5 : (k : Int) ≤ (l.length : Int) - 1 := by omega
      have hi6 : (l.length : Int) - 1 - k < l.length := by omega
      have hi3 : ((l.length : Int) - 1 - k).toNat = l.length - 1 - k := by omega
      have hi4 : ((l.length - 1 - k : Nat) : Int) = (l.length : Int) - 1 - k := by omega
      dsimp only [encB, row6] at hy
      rw [hi4] at hy
      gi_wp2
      refine hR.mono ?_
      rintro e W3 (⟨rfl, hJ3, hk3⟩ | ⟨rfl, hJx3⟩)
      · gi_wp2
        go_roundw
        case rel => exact ⟨k + 1, by omega, by simp; omega, by rw [downB_succ l hw k hlt]; exact hJ3, hnx.trans hk3 (fun _ _ h => h)⟩
        case measure => simp [intOf]; omega
      · gi_wp2
        refine bodyPost_ret (results_none rfl _ _ _) rfl ?_
        exact ⟨⟨_, rfl⟩, .inr ⟨_, ⟨k + 1, by omega, (downB_succ l hw k hlt).symm⟩, hJx3⟩⟩
    · obtain rfl : k = l.length := by omega
      have hneg : (l.length : Int) - 1 - l.length < 0 := by omega
      gi_wp2
      go_end0
      exact ⟨⟨_, rfl⟩, .inl ⟨_, rfl, hJs⟩⟩

set_option maxHeartbeats 1000000 in
theorem backward_in (n : Nat) (s : Sl) (w : World) :
    CallsIn Fence.wide n Tryd.prog 108 #[s.val] w fun e w' => e = .returned (.func (.func 120) #[] #[.pointer (some ⟨w.heap.size, 0, none⟩)]) ∧ w' = w.alloc (.cells #[s.val] 43) := by
  cases s <;> (
  refine callsIn_of_wp Tryd.func108 rfl trivial ?_ rfl
  simp only [Tryd.ntmps108, List.size_toArray, List.length_cons, List.length_nil, Nat.reduceAdd, Nat.reduceSub, Array.replicate_succ, Array.replicate_zero, List.push_toArray, List.append_toArray, List.nil_append, List.cons_append, Sl.val]
  gi_wp2
  go_ret
  exact ⟨rfl, rfl⟩)
theorem backward_stops (n : Nat) (hn : 1 ≤ n) (Bs : Nat) (own : Nat → Prop) (s : Sl) (l : List (List Int)) (hw : ∀ i, i < l.length → (rowAt l i).length = 6) (hlen : l.length ≤ 1048576) (hb : 0 < l.length → ¬ own s.b) (w : World)
    (hBs : w.cell? ⟨Bs, 0, none⟩ = some s.val) (hBn : ¬ own Bs) (R : Rows' w s 6 l) :
    SeqStopsK Fence.wide n Tryd.prog 120 #[.pointer (some ⟨Bs, 0, none⟩)] encB (Kept own) (fun ys => ys = downB l hw l.length) (fun pre => ∃ k, k ≤ l.length ∧ pre = downB l hw k) l.length w := fun lp J Jx W hW _ _ hY h0 => by
  have hg := Grow.of_below hW
  refine backward1_in n hn lp Bs own s l hw hlen J Jx hb hY W ?_ hBn (R.grow hg) h0
  exact (hW.cell (p := ⟨Bs, 0, none⟩) (cell_blk hBs).1).trans hBs
end Go.Proofs.YtmmkmhpchoelkaaDoor
