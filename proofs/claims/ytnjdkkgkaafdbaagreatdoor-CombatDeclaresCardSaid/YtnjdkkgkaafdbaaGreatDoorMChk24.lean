/-
  A region that draws its order, in a round of a range over a function: what a walk outside of a fence shows serves there, too.
  The walk of slices.Chunk over a list of numbers, two at a time.
  Declaring blockers: the plain law, and the program's Defend.
-/
import Derived.RangeFuncNested
import Derived.RangeFuncBound
import Derived.RangeFuncCalls
import Derived.RangeFuncLeaves
import Derived.Shelf.Abstract
import Derived.Shelf.RegionOpen
import Derived.OwnWalkIn
import Derived.TacticsInMore
import Derived.LoopNIn
import Derived.LoopIn
import Derived.Test.YtnjdkkgkaafdbaaGreatDoorMEq
import Derived.Test.YtnjdkkgkaafdbaaGreatDoorMDc1
import Derived.Test.YtnjdkkgkaafdbaaGreatDoorMComb
namespace Go.Proofs.YtnjdkkgkaafdbaaGreatDoor
open Go Go.RowKit

theorem rowsIn_wide {n : Nat} {P : Program} {row : String} {args : Array Value} {w : World} {R : Value → World → Prop} (h : Rows P row args w R) : RowsIn Fence.wide n P row args w R :=
  fun c cs _ => let ⟨v, w', r, s⟩ := h c cs; ⟨v, w', r, stepsIn_wide.2 s⟩
theorem oper_inRound {l n : Nat} {P : Program} {o : Oper} {a : Act} {w : World} {K : Act → World → Prop} {Q : Exit → Act → World → Prop} (hd : ∀ c, o.op ≠ .defer c) (h : o.wp P a w K Q) : o.wpIn (Fence.wide.inRound l) n P a w K Q := by
  unfold Oper.wpIn
  refine ⟨fun f _ => trivial, ?_⟩
  rw [show (Fence.wide.inRound l).round = some l from rfl, Oper.semAt_some l _ o hd]
  unfold Oper.wp at h
  generalize (execOp a.eval o).run P w = r at h
  cases r with
  | ok x w' =>
    cases x <;> simp only [Oper.uponIn, Oper.upon] at h ⊢ <;> first | exact h | skip
    · exact ⟨fun hx => (by cases hx), CallsIn.inRound l (callsIn_wide.2 (h.mono fun e w'' he => by cases e <;> exact he))⟩
    · exact ⟨fun hx => (by cases hx), rowsIn_wide h⟩
  | halt x w' => cases x <;> simp only [Oper.uponIn, Oper.upon] at h ⊢ <;> exact h
def noDefer (l : List Oper) : Bool := l.all fun o => match o.op with | .defer _ => false | _ => true
theorem noDefer_spec {l : List Oper} (h : noDefer l = true) {i : Nat} {o : Oper} (ho : l.toArray[i]? = some o) : ∀ c, o.op ≠ .defer c := by
  intro c hc
  have := List.all_eq_true.1 h o (List.mem_of_getElem? (by simpa using ho))
  rw [hc] at this
  cases this
theorem any_inRound {l n : Nat} {P : Program} {md : Region.Mode} {ops : List Oper} {Q : Exit → Act → World → Prop} (hd : noDefer ops = true) (hQ : ¬ LetsOut Q) : ∀ (f : Nat) (listed : Array Bool) (a : Act) (w : World),
    wpAny P md ops.toArray Q f listed a w → wpAnyIn (Fence.wide.inRound l) n P md ops.toArray Q f listed a w
  | 0, _, _, _, h => h
  | f + 1, listed, a, w, h => by
    refine ⟨h.1, fun i hi => ?_⟩
    have h2 := h.2 i hi
    unfold wpOp at h2
    unfold wpOpIn
    cases ho : ops.toArray[i]? with
    | none => rw [ho] at h2; exact any_inRound hd hQ f _ _ _ h2
    | some o =>
      rw [ho] at h2
      simp only at h2 ⊢
      split
      · rename_i hw
        rw [if_pos hw] at h2
        rcases h2 with h2 | h2
        · exact Oper.wpIn_mono (fun a' w' h3 => any_inRound hd hQ f _ _ _ h3) (oper_inRound (noDefer_spec hd ho) h2)
        · exact absurd h2.2 hQ
      · rename_i hw
        rw [if_neg hw] at h2
        exact ⟨fun _ _ => trivial, any_inRound hd hQ f _ _ _ h2⟩
theorem wp_order_any {P : Program} {Q : Exit → Act → World → Prop} {a : Act} {w : World} {l : List Oper} (hs : List Nat) (t : Nat) (ts : List Nat) (hB : orderB .any l.toArray hs t ts = true)
    (h : wpQuiet P l.toArray (fun w' => ∃ x, w' = w.plus x) (fun a' => ∀ w', (∃ x, w' = w.plus x) → wpList P l.toArray Q (pickO l (t :: ts)) a' w') (pickO l hs) a) :
    wpAny P .any l.toArray Q l.toArray.size (Array.replicate l.toArray.size false) a { w with drawn := w.drawn + 1 } := by
  simp only [orderB, Bool.and_eq_true, decide_eq_true_eq] at hB
  obtain ⟨⟨⟨⟨⟨⟨hsel, hlen⟩, hk⟩, hc⟩, hlex⟩, hall⟩, htlt⟩ := hB
  have htlt' : ∀ i, i ∈ t :: ts → i < l.toArray.size := fun i hi => of_decide_eq_true (List.all_eq_true.1 htlt i hi)
  have hlt : ∀ i, i ∈ hs → i < l.toArray.size := fun i hi => by
    have := List.all_eq_true.1 hall i hi
    simp only [Bool.and_eq_true, decide_eq_true_eq] at this
    exact this.1
  have hdis : ∀ i, i ∈ hs → i ∉ t :: ts := fun i hi hit => by
    have := List.all_eq_true.1 hall i hi
    simp only [Bool.and_eq_true, Bool.not_eq_true', List.contains_eq_mem, decide_eq_false_iff_not] at this
    exact this.2 hit
  have inv0 : InvO .any l.toArray (t :: ts) (Array.replicate l.toArray.size false) :=
    ⟨by simp, fun j oj _ hl => (by rw [getD_replicate_false] at hl; cases hl), fun i hi => getD_in (by simpa using htlt' i hi) (getD_replicate_false _ _)⟩
  have H := headQ_lex (md := .any) (C := fun w' => ∃ x, w' = w.plus x) hsel hk hc hlt hdis hs _ a (fun _ h => h) inv0 hlex h
  have := any_of_headQ (Q := Q) (g := (t :: ts).length) (fun listed a' w' hw' hL => any_of_seqO (md := .any) (t :: ts) listed a' w' htlt' hL.1 (hL.2 w' hw')) _ _ _ { w with drawn := w.drawn + 1 } ⟨⟨#[], fun d => d + 1⟩, by simp [World.plus]⟩ H
  rw [List.length_cons, hlen] at this
  exact this
/-- wp_region_order, in a round. -/
theorem wpIn_region_order {P : Program} {lp n id : Nat} {Q : Exit → Act → World → Prop} {a : Act} {w : World} {l : List Oper} (hs : List Nat) (t : Nat) (ts : List Nat) (hQ : ¬ LetsOut Q) (hm : P.follows .mixedOrders = true) (hB : orderB .any l.toArray hs t ts = true) (hd : noDefer l = true)
    (h : wpQuiet P l.toArray (fun w' => ∃ x, w' = w.plus x) (fun a' => ∀ w', (∃ x, w' = w.plus x) → wpList P l.toArray Q (pickO l (t :: ts)) a' w') (pickO l hs) a) : (Code.region id l.toArray true).wpIn (Fence.wide.inRound lp) n P Q a w :=
  wpIn_region_any hm (any_inRound hd hQ _ _ _ _ (wp_order_any hs t ts hB h))
end Go.Proofs.YtnjdkkgkaafdbaaGreatDoor
namespace Go.Proofs.YtnjdkkgkaafdbaaGreatDoor
open Go Go.RowKit Go.Shelf
attribute [local go_sem] Oper.semAt_some

/-- A part of a slice that has no room behind it. -/
def Sl.mid (s : Sl) (l h : Nat) : Sl := match s with
  | .nil => .nil
  | .mk b o _ _ => .mk b (if h = l then o else o + l) (h - l) (h - l)
theorem run_slice_mid (w : World) (s : Sl) (q r t : IntKind) (l h : Int) (h0 : 0 ≤ l) (h1 : l ≤ h) (h2 : h ≤ s.c) (hs : s.isNil = false) :
    (Instr.slice 23 s.val (some (.int q l)) (some (.int r h)) (some (.int t h))).run Tryz.prog w = .ok (s.mid l.toNat h.toNat).val w := by
  cases s with
  | nil => cases hs
  | mk b o n c =>
    simp only [Sl.c] at h2
    have hk : ∀ w, (sizeOf 3).run Tryz.prog w = .ok 1 w := fun w => by kernel_rfl
    simp only [Instr.slice, Sl.val, Sl.mid, Sem.run_bind, run_underlying Tryz.underlying23, Result.andThen_ok, Instr.sliceBounds, Sem.run_pure, run_sliceBound w t h c _ (by omega) h2, run_sliceBound w r h h.toNat _ (by omega) (by omega), run_sliceBound w q l h.toNat _ h0 (by omega), hk]
    split <;> simp [Addr.add]
theorem Sl.post_n (s : Sl) (l k : Nat) : (s.post l k).n = s.n - l := by cases s <;> simp [Sl.post, Sl.n]
@[go_sem] theorem slice_ints_post (w : World) (s : Sl) (q : IntKind) (i : Int) (h0 : 0 ≤ i) (h1 : i ≤ s.n) : (Instr.slice 23 s.val (some (.int q i)) none none).run Tryz.prog w = .ok (s.post i.toNat 1).val w :=
  run_slice_post (k := 1) w Tryz.underlying23 (fun w => by kernel_rfl) s q i h0 h1
/-- A round of a loop over slices.Chunk: which two. -/
def Two (N : Nat) : Type := { m : Nat // 2 * m < N }
/-- What it is handed. -/
def encC (s : Sl) (x : Two s.n) : Array Value := #[(s.mid (2 * x.1) (2 * x.1 + min 2 (s.n - 2 * x.1))).val]
/-- What has come when k rounds are over. -/
def upC (N : Nat) (k : Nat) : List (Two N) := (List.range k).filterMap fun j => if h : 2 * j < N then some ⟨j, h⟩ else none
theorem upC_succ (N k : Nat) (hk : 2 * k < N) : upC N (k + 1) = upC N k ++ [⟨k, hk⟩] := by
  unfold upC
  rw [List.range_succ, List.filterMap_append]
  congr 1
  rw [List.filterMap_cons, dif_pos hk]
  rfl
theorem upC_len (N : Nat) : ∀ k, 2 * k ≤ N + 1 → (upC N k).length = k
  | 0, _ => rfl
  | k + 1, h => by rw [upC_succ N k (by omega), List.length_append, upC_len N k (by omega)]; rfl
theorem wrap_small (x : Int) (h0 : 0 ≤ x) (h1 : x ≤ 4294967296) : wrap64 x = x := by unfold wrap64; omega
theorem grownBy_none {W W' : World} (g : Grow W W') : W.grownBy W' none :=
  have k := g.kept (fun _ => False)
  ⟨k.os, k.tape, k.output, k.size, fun j hj _ => k.block j hj (fun h => h)⟩
set_option maxRecDepth 100000 in
set_option maxHeartbeats 4000000 in
theorem chunk1_in (n : Nat) (hn : 1 ≤ n) (lp Bs Bn : Nat) (own : Nat → Prop) (s : Sl) (hlen : s.n ≤ 1048576) (hcap : s.n ≤ s.c) (J Jx : List (Two s.n) → World → Prop) (B : Nat) (hJ : AbidesFrom B J)
    (hY : ∀ pre x W, J pre W → pre.length < (s.n + 1) / 2 → YieldAt Fence.wide (n - 1) Tryz.prog lp (encC s x) W fun e W' =>
      (e = .returned (.bool true) ∧ J (pre ++ [x]) W' ∧ Kept own W W') ∨ (e = .returned (.bool false) ∧ Jx (pre ++ [x]) W'))
    (W : World) (hBs : W.cell? ⟨Bs, 0, none⟩ = some s.val) (hBc : W.cell? ⟨Bn, 0, none⟩ = some (.int .i64 2)) (hB1 : ¬ own Bs) (hB2 : ¬ own Bn) (h0 : J [] W) :
    CallsIn Fence.wide n Tryz.prog 98 #[.func (.yield lp) #[] #[], .pointer (some ⟨Bs, 0, none⟩), .pointer (some ⟨Bn, 0, none⟩)] W fun e W' => (∃ v, e = .returned v) ∧
      ((∃ ys, ys = upC s.n ((s.n + 1) / 2) ∧ J ys W') ∨ (∃ pre, (∃ k, k ≤ (s.n + 1) / 2 ∧ pre = upC s.n k) ∧ Jx pre W')) := by
  refine callsIn_of_wp Tryz.func98 rfl trivial ?_ rfl
  simp only [Tryz.ntmps98, List.size_toArray, List.length_cons, List.length_nil, Nat.reduceAdd, Nat.reduceSub, Array.replicate_succ, Array.replicate_zero, List.push_toArray, List.append_toArray, List.nil_append, List.cons_append]
  gi_wp2
  gi_loopw [4] (fun i wr => ∃ k a : Nat, a = 2 * k ∧ k ≤ (s.n + 1) / 2 ∧ i = .int .i64 (a : Int) ∧ J (upC s.n k) wr ∧ Kept own W wr)
    (fun i _ => s.n + 2 - (intOf i).toNat)
  case atStart => exact ⟨0, 0, rfl, Nat.zero_le _, rfl, h0, Kept.refl _ _⟩
  case round =>
    obtain ⟨k, a, ha, hk, rfl, hJs, hnx⟩ := hrel
    have hcs := (hnx.cell Bs 0 (cell_blk hBs).1 hB1).trans hBs
    have hcn := (hnx.cell Bn 0 (cell_blk hBc).1 hB2).trans hBc
    have hbl := Nat.lt_of_lt_of_le (cell_blk hBs).1 hnx.size
    have hbn := Nat.lt_of_lt_of_le (cell_blk hBc).1 hnx.size
    by_cases hlt : 2 * k < s.n
    · have hsn : s.isNil = false := by
        cases s with
        | nil => simp [Sl.n] at hlt
        | mk => rfl
      have hY1 := fun (nx : Ext) => hY (upC s.n k) ⟨k, hlt⟩ (wr.plus nx) (hJ _ _ _ none hJs (grownBy_none ⟨nx, rfl⟩) (fun r e => by cases e)) (by rw [upC_len s.n k (by omega)]; omega)
      have HU := Lib.hid (upC_succ s.n k hlt)
      rw [← HU.out] at hY1
      dsimp only [encC] at hY1
      rw [← ha] at hY1 hlt
      have HA := Lib.hid ha
      clear ha
      have hi2 : ((a : Int) < (s.n : Int)) = True := by simp; omega
      have hi3 : (a : Int) ≤ (s.n : Int) := by omega
      have hpn : (s.post a 1).n = s.n - a := Sl.post_n _ _ _
      have hmin : min (2 : Int) ((s.n - a : Nat) : Int) = ((min 2 (s.n - a) : Nat) : Int) := by omega
      have he : 1 ≤ min 2 (s.n - a) ∧ a + min 2 (s.n - a) ≤ s.n ∧ min 2 (s.n - a) ≤ 2 := by omega
      generalize min 2 (s.n - a) = e at *
      obtain ⟨ae, hae⟩ : ∃ ae : Nat, ae = a + e := ⟨_, rfl⟩
      obtain ⟨a2, ha2⟩ : ∃ a2 : Nat, a2 = a + 2 := ⟨_, rfl⟩
      rw [← hae] at hY1
      have hb1 : ae ≤ s.n := by omega
      have hb2 : a ≤ ae := by omega
      have hb3 : a2 ≤ 1048580 := by omega
      have hsl : ∀ w, (Instr.slice 23 s.val (some (.int .i64 (a : Int))) (some (.int .i64 (ae : Int))) (some (.int .i64 (ae : Int)))).run Tryz.prog w = .ok (s.mid a ae).val w := fun w => by
        have := run_slice_mid w s .i64 .i64 .i64 (a : Int) (ae : Int) (by omega) (by omega) (by omega) hsn
        rwa [Int.toNat_natCast, Int.toNat_natCast] at this
      have hE1 : (a : Int) + (e : Int) = (ae : Int) := by omega
      have hE2 : (a : Int) + 2 = (a2 : Int) := by omega
      have hw1 : wrap64 ((a : Int) + (e : Int)) = (ae : Int) := by rw [hE1]; exact wrap_small _ (by omega) (by omega)
      have hw2 : wrap64 ((a : Int) + 2) = (a2 : Int) := by rw [hE2]; exact wrap_small _ (by omega) (by omega)
      have HA2 := Lib.hid ha2
      clear hae ha2 hb1 hb2 hb3 hE1 hE2
      have HX := Lib.hid hnx
      have HM := Lib.hid hmin
      have HQ := Lib.hid (And.intro hsl (And.intro hw1 hw2))
      clear hJs hY he hnx hmin hsl hw1 hw2
      gi_wp2
      refine wpIn_wide.2 ?_
      refine wp_region_grow (by kernel_rfl) (by kernel_rfl) ?_; (repeat (go_big_quiet_step ( fail ))); refine wpQuiet_nil ?_; rintro _ ⟨nx, rfl⟩
      obtain ⟨fn, tmps, assign, body, hy, hR⟩ := hY1 nx
      clear hpn hY1 HU
      rw [HM.out]
      obtain ⟨hsl, hw1, hw2⟩ := HQ.out
      gi_wp2
      refine hR.mono ?_
      rintro e' W3 (⟨rfl, hJ3, hk3⟩ | ⟨rfl, hJx3⟩)
      · have hk4 : Kept own W W3 := (HX.out.trans (o2 := own) ((show Grow wr (wr.plus nx) from ⟨nx, rfl⟩).kept own) (fun _ _ h => h)).trans hk3 (fun _ _ h => h)
        have hcn3 := (hk4.cell Bn 0 (cell_blk hBc).1 hB2).trans hBc
        gi_wp2
        go_roundw
        case rel => exact ⟨k + 1, a2, by have := HA.out; have := HA2.out; omega, by have := HA.out; omega, by congr 1; have := HA2.out; omega, hJ3, hk4⟩
        case measure => have := HA2.out; simp [intOf]; omega
      · gi_wp2
        refine bodyPost_ret (results_none rfl _ _ _) rfl ?_
        exact ⟨⟨_, rfl⟩, .inr ⟨_, ⟨k + 1, by have := HA.out; omega, rfl⟩, hJx3⟩⟩
    · have hke : k = (s.n + 1) / 2 := by omega
      have hneg : ((a : Int) < (s.n : Int)) = False := by simp; omega
      rw [hke] at hJs
      clear hke
      gi_wp2
      go_end0
      exact ⟨⟨_, rfl⟩, .inl ⟨upC s.n ((s.n + 1) / 2), rfl, hJs⟩⟩
set_option maxHeartbeats 1000000 in
theorem chunk_in (n : Nat) (s : Sl) (w : World) :
    CallsIn Fence.wide n Tryz.prog 61 #[s.val, .int .i64 2] w fun e w' => e = .returned (.func (.func 98) #[] #[.pointer (some ⟨w.heap.size, 0, none⟩), .pointer (some ⟨w.heap.size + 1, 0, none⟩)]) ∧ w' = (w.alloc (.cells #[s.val] 23)).alloc (.cells #[.int .i64 2] 3) := by
  cases s <;> (
  refine callsIn_of_wp Tryz.func61 rfl trivial ?_ rfl
  simp only [Tryz.ntmps61, List.size_toArray, List.length_cons, List.length_nil, Nat.reduceAdd, Nat.reduceSub, Array.replicate_succ, Array.replicate_zero, List.push_toArray, List.append_toArray, List.nil_append, List.cons_append, Sl.val]
  gi_wp2
  go_ret
  exact ⟨rfl, rfl⟩)
theorem chunk_stops (n : Nat) (hn : 1 ≤ n) (Bs Bn : Nat) (own : Nat → Prop) (s : Sl) (hlen : s.n ≤ 1048576) (hcap : s.n ≤ s.c) (w : World)
    (hBs : w.cell? ⟨Bs, 0, none⟩ = some s.val) (hBc : w.cell? ⟨Bn, 0, none⟩ = some (.int .i64 2)) (hB1 : ¬ own Bs) (hB2 : ¬ own Bn) :
    SeqStopsK Fence.wide n Tryz.prog 98 #[.pointer (some ⟨Bs, 0, none⟩), .pointer (some ⟨Bn, 0, none⟩)] (encC s) (Kept own) (fun ys => ys = upC s.n ((s.n + 1) / 2)) (fun pre => ∃ k, k ≤ (s.n + 1) / 2 ∧ pre = upC s.n k) ((s.n + 1) / 2) w := fun lp J Jx W hW hJ _ hY h0 =>
  chunk1_in n hn lp Bs Bn own s hlen hcap J Jx _ hJ hY W ((hW.cell (p := ⟨Bs, 0, none⟩) (cell_blk hBs).1).trans hBs) ((hW.cell (p := ⟨Bn, 0, none⟩) (cell_blk hBc).1).trans hBc) hB1 hB2 h0
end Go.Proofs.YtnjdkkgkaafdbaaGreatDoor
namespace Go.Proofs.YtnjdkkgkaafdbaaGreatDoor
open Go Go.RowKit Go.Shelf
attribute [local go_sem] Oper.semAt_some

/-! ### The plain law -/
/-- What is refused of a blocker. -/
def codeD (S : St) (l seen : List Int) (m : Nat) : Int := firstOf (firstOf (firstOf (codeW S (gt l (2 * m)) (1 - S.num 19)) (if (!decide (gt l (2 * m) ∈ seen)) = true then 0 else 8)) (if attacksB S (gt l (2 * m + 1)) = true then 0 else 11)) (if stopsB S (gt l (2 * m)) (gt l (2 * m + 1)) = true then 0 else 6)
def defF (S : St) (l : List Int) (st : Int × List Int) (m : Nat) : Int × List Int := (firstOf st.1 (codeD S l st.2 m), st.2 ++ [gt l (2 * m)])
/-- What is refused of blockers, and who they are. -/
def defS (S : St) (l : List Int) (pre : List Nat) : Int × List Int := pre.foldl (defF S l) (0, [])
theorem defS_snoc (S : St) (l : List Int) (pre : List Nat) (m : Nat) : defS S l (pre ++ [m]) = defF S l (defS S l pre) m := by
  unfold defS; rw [List.foldl_append]; rfl
theorem defS_seen (S : St) (l : List Int) (pre : List Nat) : (defS S l pre).2 = pre.map fun m => gt l (2 * m) := by
  have key : ∀ (pre : List Nat) (st : Int × List Int), (pre.foldl (defF S l) st).2 = st.2 ++ pre.map fun m => gt l (2 * m) := by
    intro pre
    induction pre with
    | nil => intro st; simp
    | cons m pre ih => intro st; rw [List.foldl_cons, ih]; simp [defF]
  exact (key pre (0, [])).trans (by simp)
theorem defS_zero (S : St) (l : List Int) : ∀ (n : Nat), (defS S l (List.range n)).1 = 0 → ∀ k, k < n → codeD S l ((List.range k).map fun m => gt l (2 * m)) k = 0
  | 0, _, k, hk => absurd hk (by omega)
  | n + 1, h, k, hk => by
    rw [List.range_succ, defS_snoc] at h
    obtain ⟨h1, h2⟩ := firstOf_z h
    by_cases e : k = n
    · rw [e, ← defS_seen S l]; exact h2
    · exact defS_zero S l n h1 k (by omega)
theorem defS_stays (S : St) (l : List Int) (k : Nat) (h : (defS S l (List.range k)).1 ≠ 0) : ∀ n, k ≤ n → (defS S l (List.range n)).1 = (defS S l (List.range k)).1
  | 0, hn => by rw [show k = 0 by omega]
  | n + 1, hn => by
    by_cases e : k = n + 1
    · rw [e]
    · have := defS_stays S l k h n (by omega)
      rw [List.range_succ, defS_snoc]
      show firstOf (defS S l (List.range n)).1 _ = _
      rw [this]; exact if_neg h
/-- Blockers, declared. -/
def Em.blocks (E : Em) (l : List Int) : Nat → Em
  | 0 => E
  | k + 1 => (E.blocks l k).setObj (gt l (2 * k)) 12 (gt l (2 * k + 1) + 1)
def Em.odd (E : Em) (l : List Int) : Em := if l.length % 2 = 0 then E else E.fail 2
/-- What declaring blockers does. -/
def Em.defend (E : Em) (S : St) (l : List Int) : Em :=
  if ((E.odd l).fail (defS S l (List.range ((l.length + 1) / 2))).1).err = 0 then E.blocks l ((l.length + 1) / 2) else (E.odd l).fail (defS S l (List.range ((l.length + 1) / 2))).1
theorem defend_facts {S : St} {l seen : List Int} {k : Nat} (h : codeD S l seen k = 0) : creatureB S (gt l (2 * k)) = true ∧ attacksB S (gt l (2 * k + 1)) = true := by
  obtain ⟨h1, _⟩ := firstOf_z h
  obtain ⟨h2, h3⟩ := firstOf_z h1
  obtain ⟨h4, _⟩ := firstOf_z h2
  refine ⟨codeW_z h4, ?_⟩
  cases ha : attacksB S (gt l (2 * k + 1)) with
  | true => rfl
  | false => rw [ha] at h3; simp at h3
theorem attacksB_creature {S : St} {a : Int} (h : attacksB S a = true) : creatureB S a = true := by
  unfold attacksB at h
  exact (Bool.and_eq_true_iff.1 h).1
theorem Fi.block {S : St} {m : Nat} {E : Em} (hS : Right S) (h : Fi S m E) (hm : m + 1 ≤ 65536) {id a : Int} (hc : creatureB S id = true) (ha : attacksB S a = true) : Fi S (m + 1) (E.setObj id 12 (a + 1)) := by
  obtain ⟨c1, c2, c3, _⟩ := creatureB_in hc
  obtain ⟨a1, a2, _, _⟩ := creatureB_in (attacksB_creature ha)
  obtain ⟨d, rfl⟩ := Int.eq_ofNat_of_zero_le c1
  rw [Int.toNat_natCast] at c3
  have h4 := hS.many
  have e2 : gt (objBounds S.objs.length) (12 * 2) = 0 ∧ gt (objBounds S.objs.length) (12 * 2 + 1) = S.objs.length := ⟨rfl, rfl⟩
  exact (h.set (by omega) d 12 (a + 1) (by omega) c3 (by omega) (by omega) (by omega)).1
/-! ### Failing, told finely: nothing but the emitter's own block is written -/
def FailPost (w : World) (b : Nat) (own : Nat → Prop) (E : Em) (w' : World) : Prop := Emt w' b own E ∧ Kept (fun k => k = b) w w'
theorem FailPost.of_grow {w w' : World} {b : Nat} {own : Nat → Prop} {E : Em} (h : Emt w b own E) (g : Grow w w') : FailPost w b own E w' := ⟨h.grow g, g.kept _⟩
theorem FailPost.low {w w1 w2 : World} {b : Nat} {own : Nat → Prop} {E : Em} (g : Grow w w1) (h : FailPost w1 b own E w2) : FailPost w b own E w2 := ⟨h.1, (g.kept _).trans h.2 (fun _ _ h => h)⟩
theorem FailPost.more {w w1 w2 : World} {b : Nat} {own : Nat → Prop} {E : Em} (h : FailPost w b own E w1) (g : Grow w1 w2) : FailPost w b own E w2 := ⟨h.1.grow g, h.2.trans (g.kept _) (fun _ _ h => h)⟩
theorem FailPost.trans {w w1 w2 : World} {b : Nat} {own : Nat → Prop} {E1 E2 : Em} (h : FailPost w b own E1 w1) (g : FailPost w1 b own E2 w2) : FailPost w b own E2 w2 := ⟨g.1, h.2.trans g.2 (fun _ _ h => h)⟩
theorem Emt.setErrF {w w' : World} {b : Nat} {own : Nat → Prop} {V : SV} {sd se sp : Sl} {E : Em} (h : RepE w b V sd se sp E) (ho : ∀ k, own k ↔ emOwn b V sd se sp k) (m : Int) (g : Grow (w.setRow b (hoA V E.now.num (emR sd se sp m))) w') : FailPost w b own { E with err := m } w' :=
  ⟨⟨V, sd, se, sp, (h.setErr m).kept (g.kept (fun _ => False)) (fun _ _ h => h), ho⟩, ((Kept.refl (fun k => k = b) w).setRow b _ (fun _ => rfl)).trans (o2 := fun _ => False) (g.kept _) (fun _ _ h => h.elim)⟩
set_option maxRecDepth 100000 in
set_option maxHeartbeats 2000000 in
theorem fail_fine (w : World) (b : Nat) (own : Nat → Prop) (E : Em) (R : Emt w b own E) (n : Int) (hn : n ≠ 0) :
    Calls Tryz.prog 45 #[.pointer (some ⟨b, 0, none⟩), .iface 93 (.int .i64 n)] w fun e w' => e = .returned (.tuple #[]) ∧ FailPost w b own (E.fail n) w' := by
  have HR0 := Lib.hid R
  obtain ⟨V, sd, se, sp, hr, ho⟩ := R
  have hH := hr.host
  have hcell := cell_of_blk (hH).free (hH).blk; have hfz := frozen_of_free (hH).free; have hset := setCell_of_blk (hH).free (hH).blk; have hblk := (hH).blk; have hfree := (hH).free; have hlt := (hH).lt; have hne1 : ¬ b = (w).heap.size := (by omega); have hne2 : ¬ (w).heap.size = b := (by omega)
  have hc40 := hr.errCell
  have HR := Lib.hid hr
  have HO := Lib.hid ho
  clear hr ho hH hblk
  unfold Em.fail
  by_cases he : E.err = 0
  · rw [he, errV_0] at hc40
    have hs := hset 40 (errV n)
    rw [hoA_s40] at hs
    rw [if_pos he]
    clear hset hcell he
    rw [errV_is hn] at hs
    go_enter Tryz.func45, Tryz.ntmps45
    go_wp2_with fail
    go_end0
    exact ⟨rfl, Emt.setErrF HR.out HO.out _ grI⟩
  · rw [errV_is he] at hc40
    rw [if_neg he]
    clear hset hcell he
    go_enter Tryz.func45, Tryz.ntmps45
    go_wp2_with fail
    go_end0
    exact ⟨rfl, .of_grow HR0.out grI⟩
theorem cmust_fine (w : World) (b : Nat) (own : Nat → Prop) (E : Em) (R : Emt w b own E) (ok : Bool) (k : Int) (hk : k ≠ 0) :
    Calls Tryz.prog 58 #[.pointer (some ⟨b, 0, none⟩), .bool ok, .int .i64 k] w fun r w' => r = .returned (.tuple #[]) ∧ FailPost w b own (E.fail (if ok = true then 0 else k)) w' := by
  cases ok with
  | true =>
    rw [if_pos rfl, fail_z]
    refine (cmust_yes w _ k).mono ?_
    rintro r w' ⟨rfl, g⟩
    exact ⟨rfl, .of_grow R g⟩
  | false =>
    rw [if_neg (by simp)]
    have HF := Lib.hid (fun W (g : Grow w W) => fail_fine W b own E (R.grow g) k hk)
    clear R
    go_enter Tryz.func58, Tryz.ntmps58
    go_wp2_with fail
    refine (HF.out _ grI).mono ?_
    rintro e' w2 ⟨rfl, hE⟩
    have HE := Lib.hid (FailPost.low grI hE : FailPost w b own (E.fail k) w2)
    clear hE
    go_wp2_with fail
    go_end0
    exact ⟨rfl, HE.out.more grI⟩
/-- A right state in memory, off which an emitter's block stands. -/
structure Off24 (w : World) (b : Nat) (S : St) (V : SV) : Prop where
  rs : RS S V w
  ap : ∀ k, V.uses k → k ≠ b ∧ k < w.heap.size
  vars : ∀ k, (k = 0 ∨ k = 1 ∨ k = 2) → k ≠ b
theorem Off24.turn {w w' : World} {b : Nat} {S : St} {V : SV} (h : Off24 w b S V) (k : Kept (fun k => k = b) w w') : Off24 w' b S V := by
  obtain ⟨s1, s2, s3⟩ := h.rs.glob.size
  have hs := k.size
  exact ⟨⟨h.rs.rep.kept k (fun j hj => (h.ap j hj).1), h.rs.right, h.rs.small, ⟨⟨by omega, by omega, by omega⟩, by rw [k.blk _ s1 (h.vars _ (.inl rfl)), h.rs.glob.resting], by rw [k.blk _ s2 (h.vars _ (.inr (.inl rfl))), h.rs.glob.flag], by rw [k.blk _ s3 (h.vars _ (.inr (.inr rfl))), h.rs.glob.any]⟩⟩, fun j hj => ⟨(h.ap j hj).1, Nat.lt_of_lt_of_le (h.ap j hj).2 hs⟩, h.vars⟩
set_option maxRecDepth 100000 in
set_option maxHeartbeats 2000000 in
theorem whose_fine (w : World) (b : Nat) (own : Nat → Prop) (E : Em) (R : Emt w b own E) (S : St) (V : SV) (D : Off24 w b S V) (id pl : Int) :
    Calls Tryz.prog 57 #[.pointer (some ⟨b, 0, none⟩), .agg (stA V S.num), .int .i64 id, .int .i64 pl] w fun r w' => r = .returned (.tuple #[]) ∧ FailPost w b own (E.fail (codeW S id pl)) w' := by
  have HI := Lib.hid (fun W (g : Grow w W) => is_any S V W (D.rs.grow g) id)
  have HW : Hid (E.fail (codeW S id pl) = (E.fail (if creatureB S id = true then 0 else 12)).fail (if (!creatureB S id || fldN S id 2 == pl) = true then 0 else 9)) := (fail_fail _ _ _).symm
  have HM := Lib.hid (fun W (g : Grow w W) => cmust_fine W b own E (R.grow g) (creatureB S id) 12 (by decide))
  have HR := Lib.hid R
  have hbl : b < w.heap.size := by obtain ⟨V, sd, se, sp, hr, ho⟩ := R; exact hr.host.lt
  have HD := Lib.hid D
  rw [HW.out]
  clear R HW D
  cases hc : creatureB S id with
  | false =>
    rw [hc] at HI HM
    rw [if_neg (by simp)] at HM ⊢
    rw [if_pos (by simp), fail_z]
    clear hc
    go_enter Tryz.func57, Tryz.ntmps57
    go_wp2_with (go_at_call 40; refine (HI.out _ grI).mono ?_; rintro e' w' ⟨rfl, nx, rfl⟩)
    refine (HM.out _ grI).mono ?_
    rintro e' w2 ⟨rfl, hE⟩
    have HE := Lib.hid (FailPost.low grI hE : FailPost w b own (E.fail 12) w2)
    have HY := Lib.hid (fun W => cmust_yes W (.pointer (some ⟨b, 0, none⟩)) 9)
    clear hE HI HM
    go_wp2_with (go_at_call 58; refine (HY.out _).mono ?_; rintro e' w' ⟨rfl, nx, rfl⟩)
    go_end0
    exact ⟨rfl, HE.out.more grI⟩
  | true =>
    obtain ⟨c1, c2, _, _⟩ := creatureB_in hc
    obtain ⟨d, rfl⟩ := Int.eq_ofNat_of_zero_le c1
    have hd : d < S.objs.length := by omega
    rw [hc] at HI HM
    rw [if_pos rfl, fail_z] at HM ⊢
    simp only [Bool.not_true, Bool.false_or]
    unfold fldN
    rw [Int.toNat_natCast]
    obtain ⟨z, hz⟩ : ∃ z : Int, (if (gt (rowAt S.objs d) 2 == pl) = true then (0 : Int) else 9) = z := ⟨_, rfl⟩
    rw [hz]
    have HZ := Lib.hid hz
    have HY := Lib.hid (fun W => cmust_yes W (.pointer (some ⟨b, 0, none⟩)) 12)
    have HFd := Lib.hid (fun W (g : Grow w W) => field_any S V W (HD.out.rs.grow g).rep d 2 hd (by decide))
    have HM2 := Lib.hid (fun W (g : Grow w W) ok => cmust_fine W b own E (HR.out.grow g) ok 9 (by decide))
    clear hc c1 c2 hz
    go_enter Tryz.func57, Tryz.ntmps57
    go_wp2_with (go_at_call 40; refine (HI.out _ grI).mono ?_; rintro e' w' ⟨rfl, nx, rfl⟩)
    refine (HY.out _).mono ?_
    rintro e' w2 ⟨rfl, n2, rfl⟩
    go_wp2_with (go_at_call 41; refine (HFd.out _ grI).mono ?_; rintro e' w' ⟨rfl, nx, rfl⟩)
    refine (HM2.out _ grI _).mono ?_
    rintro e' w3 ⟨rfl, hE⟩
    rw [HZ.out] at hE
    have HE := Lib.hid (FailPost.low grI hE : FailPost w b own (E.fail z) w3)
    clear hE
    go_wp2_with fail
    go_end0
    exact ⟨rfl, HE.out.more grI⟩
end Go.Proofs.YtnjdkkgkaafdbaaGreatDoor
