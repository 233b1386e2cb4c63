/-
  The walk of slices.Chunk over a list of numbers, two at a time.
-/
import Derived.Test.YtnjdkkgkaafdbaaGreatDoorMRound24
import Derived.Test.YtnjdkkgkaafdbaaGreatDoorMDc1
namespace Go.Proofs.YtnjdkkgkaafdbaaGreatDoor
open Go Go.RowKit Go.Shelf
attribute [local go_sem] Oper.semAt_some

/-- A part of a slice that has no room behind it. -/
def Sl.mid (s : Sl) (l h : Nat) : Sl := match s with
  | .nil => .nil
  | .mk b o _ _ => .mk b (if h = l then o else o + l) (h - l) (h - l)
theorem run_slice_mid (w : World) (s : Sl) (q r t : IntKind) (l h : Int) (h0 : 0 ≤ l) (h1 : l ≤ h) (h2 : h ≤ s.c) (hs : s.isNil = false) :
    (Instr.slice 23 s.val (some (.int q l)) (some (.int r h)) (some (.int t h))).run Tryz.prog w = .ok (s.mid l.toNat h.toNat).val w := by
  cases s with
  | nil => cases hs
  | mk b o n c =>
    simp only [Sl.c] at h2
    have hk : ∀ w, (sizeOf 3).run Tryz.prog w = .ok 1 w := fun w => by kernel_rfl
    simp only [Instr.slice, Sl.val, Sl.mid, Sem.run_bind, run_underlying Tryz.underlying23, Result.andThen_ok, Instr.sliceBounds, Sem.run_pure, run_sliceBound w t h c _ (by omega) h2, run_sliceBound w r h h.toNat _ (by omega) (by omega), run_sliceBound w q l h.toNat _ h0 (by omega), hk]
    split <;> simp [Addr.add]
theorem Sl.post_n (s : Sl) (l k : Nat) : (s.post l k).n = s.n - l := by cases s <;> simp [Sl.post, Sl.n]
@[go_sem] theorem slice_ints_post (w : World) (s : Sl) (q : IntKind) (i : Int) (h0 : 0 ≤ i) (h1 : i ≤ s.n) : (Instr.slice 23 s.val (some (.int q i)) none none).run Tryz.prog w = .ok (s.post i.toNat 1).val w :=
  run_slice_post (k := 1) w Tryz.underlying23 (fun w => by kernel_rfl) s q i h0 h1
/-- A round of a loop over slices.Chunk: which two. -/
def Two (N : Nat) : Type := { m : Nat // 2 * m < N }
/-- What it is handed. -/
def encC (s : Sl) (x : Two s.n) : Array Value := #[(s.mid (2 * x.1) (2 * x.1 + min 2 (s.n - 2 * x.1))).val]
/-- What has come when k rounds are over. -/
def upC (N : Nat) (k : Nat) : List (Two N) := (List.range k).filterMap fun j => if h : 2 * j < N then some ⟨j, h⟩ else none
theorem upC_succ (N k : Nat) (hk : 2 * k < N) : upC N (k + 1) = upC N k ++ [⟨k, hk⟩] := by
  unfold upC
  rw [List.range_succ, List.filterMap_append]
  congr 1
  rw [List.filterMap_cons, dif_pos hk]
  rfl
theorem upC_len (N : Nat) : ∀ k, 2 * k ≤ N + 1 → (upC N k).length = k
  | 0, _ => rfl
  | k + 1, h => by rw [upC_succ N k (by omega), List.length_append, upC_len N k (by omega)]; rfl
theorem wrap_small (x : Int) (h0 : 0 ≤ x) (h1 : x ≤ 4294967296) : wrap64 x = x := by unfold wrap64; omega
theorem grownBy_none {W W' : World} (g : Grow W W') : W.grownBy W' none :=
  have k := g.kept (fun _ => False)
  ⟨k.os, k.tape, k.output, k.size, fun j hj _ => k.block j hj (fun h => h)⟩
set_option maxRecDepth 100000 in
set_option maxHeartbeats 4000000 in
theorem chunk1_in (n : Nat) (hn : 1 ≤ n) (lp Bs Bn : Nat) (own : Nat → Prop) (s : Sl) (hlen : s.n ≤ 1048576) (hcap : s.n ≤ s.c) (J Jx : List (Two s.n) → World → Prop) (B : Nat) (hJ : AbidesFrom B J)
    (hY : ∀ pre x W, J pre W → pre.length < (s.n + 1) / 2 → YieldAt Fence.wide (n - 1) Tryz.prog lp (encC s x) W fun e W' =>
      (e = .returned (.bool true) ∧ J (pre ++ [x]) W' ∧ Kept own W W') ∨ (e = .returned (.bool false) ∧ Jx (pre ++ [x]) W'))
    (W : World) (hBs : W.cell? ⟨Bs, 0, none⟩ = some s.val) (hBc : W.cell? ⟨Bn, 0, none⟩ = some (.int .i64 2)) (hB1 : ¬ own Bs) (hB2 : ¬ own Bn) (h0 : J [] W) :
    CallsIn Fence.wide n Tryz.prog 98 #[.func (.yield lp) #[] #[], .pointer (some ⟨Bs, 0, none⟩), .pointer (some ⟨Bn, 0, none⟩)] W fun e W' => (∃ v, e = .returned v) ∧
      ((∃ ys, ys = upC s.n ((s.n + 1) / 2) ∧ J ys W') ∨ (∃ pre, (∃ k, k ≤ (s.n + 1) / 2 ∧ pre = upC s.n k) ∧ Jx pre W')) := by
  refine callsIn_of_wp Tryz.func98 rfl trivial ?_ rfl
  simp only [Tryz.ntmps98, List.size_toArray, List.length_cons, List.length_nil, Nat.reduceAdd, Nat.reduceSub, Array.replicate_succ, Array.replicate_zero, List.push_toArray, List.append_toArray, List.nil_append, List.cons_append]
  gi_wp2
  gi_loopw [4] (fun i wr => ∃ k a : Nat, a = 2 * k ∧ k ≤ (s.n + 1) / 2 ∧ i = .int .i64 (a : Int) ∧ J (upC s.n k) wr ∧ Kept own W wr)
    (fun i _ => s.n + 2 - (intOf i).toNat)
  case atStart => exact ⟨0, 0, rfl, Nat.zero_le _, rfl, h0, Kept.refl _ _⟩
  case round =>
    obtain ⟨k, a, ha, hk, rfl, hJs, hnx⟩ := hrel
    have hcs := (hnx.cell Bs 0 (cell_blk hBs).1 hB1).trans hBs
    have hcn := (hnx.cell Bn 0 (cell_blk hBc).1 hB2).trans hBc
    have hbl := Nat.lt_of_lt_of_le (cell_blk hBs).1 hnx.size
    have hbn := Nat.lt_of_lt_of_le (cell_blk hBc).1 hnx.size
    by_cases hlt : 2 * k < s.n
    · have hsn : s.isNil = false := by
        cases s with
        | nil => simp [Sl.n] at hlt
        | mk => rfl
      have hY1 := fun (nx : Ext) => hY (upC s.n k) ⟨k, hlt⟩ (wr.plus nx) (hJ _ _ _ none hJs (grownBy_none ⟨nx, rfl⟩) (fun r e => by cases e)) (by rw [upC_len s.n k (by omega)]; omega)
      have HU := Lib.hid (upC_succ s.n k hlt)
      rw [← HU.out] at hY1
      dsimp only [encC] at hY1
      rw [← ha] at hY1 hlt
      have HA := Lib.hid ha
      clear ha
      have hi2 : ((a : Int) < (s.n : Int)) = True := by simp; omega
      have hi3 : (a : Int) ≤ (s.n : Int) := by omega
      have hpn : (s.post a 1).n = s.n - a := Sl.post_n _ _ _
      have hmin : min (2 : Int) ((s.n - a : Nat) : Int) = ((min 2 (s.n - a) : Nat) : Int) := by omega
      have he : 1 ≤ min 2 (s.n - a) ∧ a + min 2 (s.n - a) ≤ s.n ∧ min 2 (s.n - a) ≤ 2 := by omega
      generalize min 2 (s.n - a) = e at *
      obtain ⟨ae, hae⟩ : ∃ ae : Nat, ae = a + e := ⟨_, rfl⟩
      obtain ⟨a2, ha2⟩ : ∃ a2 : Nat, a2 = a + 2 := ⟨_, rfl⟩
      rw [← hae] at hY1
      have hb1 : ae ≤ s.n := by omega
      have hb2 : a ≤ ae := by omega
      have hb3 : a2 ≤ 1048580 := by omega
      have hsl : ∀ w, (Instr.slice 23 s.val (some (.int .i64 (a : Int))) (some (.int .i64 (ae : Int))) (some (.int .i64 (ae : Int)))).run Tryz.prog w = .ok (s.mid a ae).val w := fun w => by
        have := run_slice_mid w s .i64 .i64 .i64 (a : Int) (ae : Int) (by omega) (by omega) (by omega) hsn
        rwa [Int.toNat_natCast, Int.toNat_natCast] at this
      have hE1 : (a : Int) + (e : Int) = (ae : Int) := by omega
      have hE2 : (a : Int) + 2 = (a2 : Int) := by omega
      have hw1 : wrap64 ((a : Int) + (e : Int)) = (ae : Int) := by rw [hE1]; exact wrap_small _ (by omega) (by omega)
      have hw2 : wrap64 ((a : Int) + 2) = (a2 : Int) := by rw [hE2]; exact wrap_small _ (by omega) (by omega)
      have HA2 := Lib.hid ha2
      clear hae ha2 hb1 hb2 hb3 hE1 hE2
      have HX := Lib.hid hnx
      have HM := Lib.hid hmin
      have HQ := Lib.hid (And.intro hsl (And.intro hw1 hw2))
      clear hJs hY he hnx hmin hsl hw1 hw2
      gi_wp2
      refine wpIn_wide.2 ?_
      refine wp_region_grow (by kernel_rfl) (by kernel_rfl) ?_; (repeat (go_big_quiet_step ( fail ))); refine wpQuiet_nil ?_; rintro _ ⟨nx, rfl⟩
      obtain ⟨fn, tmps, assign, body, hy, hR⟩ := hY1 nx
      clear hpn hY1 HU
      rw [HM.out]
      obtain ⟨hsl, hw1, hw2⟩ := HQ.out
      gi_wp2
      refine hR.mono ?_
      rintro e' W3 (⟨rfl, hJ3, hk3⟩ | ⟨rfl, hJx3⟩)
      · have hk4 : Kept own W W3 := (HX.out.trans (o2 := own) ((show Grow wr (wr.plus nx) from ⟨nx, rfl⟩).kept own) (fun _ _ h => h)).trans hk3 (fun _ _ h => h)
        have hcn3 := (hk4.cell Bn 0 (cell_blk hBc).1 hB2).trans hBc
        gi_wp2
        go_roundw
        case rel => exact ⟨k + 1, a2, by have := HA.out; have := HA2.out; omega, by have := HA.out; omega, by congr 1; have := HA2.out; omega, hJ3, hk4⟩
        case measure => have := HA2.out; simp [intOf]; omega
      · gi_wp2
        refine bodyPost_ret (results_none rfl _ _ _) rfl ?_
        exact ⟨⟨_, rfl⟩, .inr ⟨_, ⟨k + 1, by have := HA.out; omega, rfl⟩, hJx3⟩⟩
    · have hke : k = (s.n + 1) / 2 := by omega
      have hneg : ((a : Int) < (s.n : Int)) = False := by simp; omega
      rw [hke] at hJs
      clear hke
      gi_wp2
      go_end0
      exact ⟨⟨_, rfl⟩, .inl ⟨upC s.n ((s.n + 1) / 2), rfl, hJs⟩⟩
set_option maxHeartbeats 1000000 in
theorem chunk_in (n : Nat) (s : Sl) (w : World) :
    CallsIn Fence.wide n Tryz.prog 61 #[s.val, .int .i64 2] w fun e w' => e = .returned (.func (.func 98) #[] #[.pointer (some ⟨w.heap.size, 0, none⟩), .pointer (some ⟨w.heap.size + 1, 0, none⟩)]) ∧ w' = (w.alloc (.cells #[s.val] 23)).alloc (.cells #[.int .i64 2] 3) := by
  cases s <;> (
  refine callsIn_of_wp Tryz.func61 rfl trivial ?_ rfl
  simp only [Tryz.ntmps61, List.size_toArray, List.length_cons, List.length_nil, Nat.reduceAdd, Nat.reduceSub, Array.replicate_succ, Array.replicate_zero, List.push_toArray, List.append_toArray, List.nil_append, List.cons_append, Sl.val]
  gi_wp2
  go_ret
  exact ⟨rfl, rfl⟩)
theorem chunk_stops (n : Nat) (hn : 1 ≤ n) (Bs Bn : Nat) (own : Nat → Prop) (s : Sl) (hlen : s.n ≤ 1048576) (hcap : s.n ≤ s.c) (w : World)
    (hBs : w.cell? ⟨Bs, 0, none⟩ = some s.val) (hBc : w.cell? ⟨Bn, 0, none⟩ = some (.int .i64 2)) (hB1 : ¬ own Bs) (hB2 : ¬ own Bn) :
    SeqStopsK Fence.wide n Tryz.prog 98 #[.pointer (some ⟨Bs, 0, none⟩), .pointer (some ⟨Bn, 0, none⟩)] (encC s) (Kept own) (fun ys => ys = upC s.n ((s.n + 1) / 2)) (fun pre => ∃ k, k ≤ (s.n + 1) / 2 ∧ pre = upC s.n k) ((s.n + 1) / 2) w := fun lp J Jx W hW hJ _ hY h0 =>
  chunk1_in n hn lp Bs Bn own s hlen hcap J Jx _ hJ hY W ((hW.cell (p := ⟨Bs, 0, none⟩) (cell_blk hBs).1).trans hBs) ((hW.cell (p := ⟨Bn, 0, none⟩) (cell_blk hBc).1).trans hBc) hB1 hB2 h0
end Go.Proofs.YtnjdkkgkaafdbaaGreatDoor
