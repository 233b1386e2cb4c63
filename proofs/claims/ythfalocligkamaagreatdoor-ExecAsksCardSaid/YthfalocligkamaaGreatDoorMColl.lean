/- The walks of slices.Values, Collect, Sorted at ints. -/
import Derived.Test.YthfalocligkamaaGreatDoorLay2
import Derived.RangeFuncFrom
import Derived.RangeFuncBox
import Derived.RangeFuncNested
import Derived.Test.YthfalocligkamaaGreatDoorMRound
import Derived.Test.YthfalocligkamaaGreatDoorMEm
import Derived.Test.YthfalocligkamaaGreatDoorMShN
import Derived.Test.YthfalocligkamaaGreatDoorMMade
import Derived.Test.YthfalocligkamaaGreatDoorMUses
namespace Go.Proofs.YthfalocligkamaaGreatDoor
open Go Go.RowKit Go.Shelf Go.Sort
attribute [local go_sem] Oper.semAt_some
set_option maxRecDepth 100000 in
set_option maxHeartbeats 2000000 in
theorem zua (n : Nat) (hn : 1 ≤ n) (lp Bs : Nat) (own : Nat → Prop) (s : Sl) (l : List Int) (hlen : l.length ≤ 1048576) (J Jx : List Int → World → Prop) (hb : 0 < l.length → ¬ own s.b)
 (hY : ∀ pre x W, J pre W → pre.length < l.length → YieldAt Fence.wide (n - 1) Tryz.prog lp #[.int .i64 x] W fun e W' =>
   (e = .returned (.bool true) ∧ J (pre ++ [x]) W' ∧ Kept own W W') ∨ (e = .returned (.bool false) ∧ Jx (pre ++ [x]) W'))
 (W : World) (hBs : W.cell? ⟨Bs, 0, none⟩ = some s.val) (R : Ints W s l) (h0 : J [] W) :
 CallsIn Fence.wide n Tryz.prog 159 #[.func (.yield lp) #[] #[], .pointer (some ⟨Bs, 0, none⟩)] W fun e W' => (∃ v, e = .returned v) ∧
  ((∃ ys, ys = l ∧ J ys W') ∨ (∃ pre, (∃ k, k ≤ l.length ∧ pre = l.take k) ∧ Jx pre W')) := by
 have hsn := R.len
 refine callsIn_of_wp Tryz.func159 rfl trivial ?_ rfl
 simp only [Tryz.ntmps159, List.size_toArray, List.length_cons, List.length_nil, Nat.reduceAdd, Nat.reduceSub, Array.replicate_succ, Array.replicate_zero, List.push_toArray, List.append_toArray, List.nil_append, List.cons_append]
 have HR := Lib.hid R
 clear R
 gi_wp2
 gi_loopw [7] (fun i wr => ∃ k : Nat, k ≤ l.length ∧ i = .int .i64 k ∧ J (l.take k) wr ∧ Kept own W wr)
  (fun i _ => l.length - (intOf i).toNat)
 case atStart => exact ⟨0, Nat.zero_le _, rfl, by rw [List.take_zero]; exact h0, Kept.refl _ _⟩
 case round =>
  obtain ⟨k, hk, rfl, hJs, hnx⟩ := hrel
  by_cases hlt : k < l.length
  · obtain ⟨fn, tmps, assign, body, hy, hR⟩ := hY _ (gt l k) wr hJs (by rw [List.length_take]; omega)
    obtain ⟨qb, qc⟩ := (HR.out.kept hnx hb).at k hlt
    have htk : l.take k ++ [gt l k] = l.take (k + 1) := by rw [List.take_succ_eq_append_getElem hlt, zcw _ _ hlt]
    have HTK := Lib.hid htk
    clear htk
    generalize gt l k = x at *
    gi_wp2
    refine hR.mono ?_
    rintro e W3 (⟨rfl, hJ3, hk3⟩ | ⟨rfl, hJx3⟩)
    · gi_wp2
      go_roundw
      case rel => exact ⟨k + 1, by omega, by simp, by rw [← HTK.out]; exact hJ3, hnx.trans hk3 (fun _ _ h => h)⟩
      case measure => simp [intOf]; omega
    · gi_wp2
      refine bodyPost_ret (results_none rfl _ _ _) rfl ?_
      exact ⟨⟨_, rfl⟩, .inr ⟨_, ⟨k + 1, by omega, HTK.out⟩, hJx3⟩⟩
  · obtain rfl : k = l.length := by omega
    rw [List.take_length] at hJs
    gi_wp2
    go_end0
    exact ⟨⟨_, rfl⟩, .inl ⟨_, rfl, hJs⟩⟩
set_option maxHeartbeats 1000000 in
theorem zub (s : Sl) (w : World) :
 Calls Tryz.prog 137 #[s.val] w fun e w' => e = .returned (.func (.func 159) #[] #[.pointer (some ⟨w.heap.size, 0, none⟩)]) ∧ w' = w.alloc (.cells #[s.val] 23) := by
 cases s <;> (
 go_enter Tryz.func137, Tryz.ntmps137
 go_wp2_with fail
 go_ret
 exact ⟨rfl, rfl⟩)
theorem zof (n : Nat) (hn : 1 ≤ n) (Bs : Nat) (own : Nat → Prop) (s : Sl) (l : List Int) (hlen : l.length ≤ 1048576) (hb : 0 < l.length → ¬ own s.b) (w : World)
 (hBs : w.cell? ⟨Bs, 0, none⟩ = some s.val) (R : Ints w s l) :
 SeqStopsK Fence.wide n Tryz.prog 159 #[.pointer (some ⟨Bs, 0, none⟩)] (fun x : Int => #[.int .i64 x]) (Kept own) (fun ys => ys = l) (fun pre => ∃ k, k ≤ l.length ∧ pre = l.take k) l.length w := fun lp J Jx W hW _ _ hY h0 => by
 have hg := Grow.of_below hW
 refine zua n hn lp Bs own s l hlen J Jx hb hY W ?_ (R.grow hg) h0
 exact (hW.cell (p := ⟨Bs, 0, none⟩) (zbd hBs).1).trans hBs
theorem zwz {W W' : World} {row : Option Nat} (h : W.grownBy W' row) : Kept (fun k => some k = row) W W' :=
 ⟨h.os, h.tape, h.output, h.size, fun k hk hn => h.block k hk hn⟩
def z76 (w : World) (k : Nat) : Prop := w.heap.size ≤ k
def yf5 (w w1 : World) (pre : List Int) (W : World) : Prop :=
 ∃ so : Sl, Boxed W w.heap.size 23 so.val ∧ Cells W so 1 (pre.map I) ∧ Room W so 1 ∧ (∀ b, so.owns b → w.heap.size + 1 ≤ b ∧ ∃ c t f, W.heap[b]? = some (.cells c t f)) ∧ so.n = pre.length ∧ Kept (z76 w) w1 W
theorem z2g (w w1 : World) (h1 : w1.heap.size = w.heap.size + 1) : OwnFrom w1.heap.size (yf5 w w1) := by
 rintro pre W W' row ⟨so, hb, hc, hr, ho, hn, hk⟩ hg hrow
 have hkg := zwz hg
 have hno : ∀ b, so.owns b → ¬ some b = row := fun b hb e => by
  obtain ⟨_, o, h2, h3⟩ := hrow b e.symm
  obtain ⟨_, c, t, f, h4⟩ := ho b hb
  rw [h4] at h2
  cases h2
  cases h3
 refine ⟨so, hb.kept hg (fun e => by have := (hrow _ e.symm).1; omega), hc.kept hkg hno, hr.kept hkg hno, fun b hb => ?_, hn, hk.trans hkg (fun k hk e => ?_)⟩
 · obtain ⟨h4, c, t, f, h5⟩ := ho b hb
   refine ⟨h4, c, t, f, ?_⟩
   rw [hkg.block b (Array.getElem?_eq_some_iff.1 h5).1 (hno b hb)]; exact h5
 · have := (hrow k e.symm).1
   show w.heap.size ≤ k
   omega
theorem yga {w : World} {b i : Nat} {v : Value} (h : w.cell? ⟨b, i, none⟩ = some v) : ∃ c t f, w.heap[b]? = some (.cells c t f) := by
 unfold World.cell? at h
 cases ho : w.heap[b]? with
 | none => rw [ho] at h; cases h
 | some o =>
   rw [ho] at h
   cases o <;> try (cases h; done)
   exact ⟨_, _, _, rfl⟩
theorem z77 {s : Sl} {b : Nat} (h : s.owns b) : b = s.b := by
 cases s with
 | nil => exact h.elim
 | mk => exact h
theorem z4y {w W W1 w' : World} {so : Sl} (hB : Boxed W w.heap.size 23 so.val) (hO : ∀ b, so.owns b → w.heap.size + 1 ≤ b ∧ ∃ c t f, W.heap[b]? = some (.cells c t f)) (hg : Grow W W1) (c3 : Kept so.owns W1 w') : Boxed w' w.heap.size 23 so.val := by
 show w'.heap[w.heap.size]? = _
 rw [c3.block _ (Nat.lt_of_lt_of_le hB.lt hg.size) (fun h => by have := (hO _ h).1; omega), (hg.kept (fun _ => False)).block _ hB.lt (fun h => h)]
 exact hB
theorem yhs {w w1 W W1 w' : World} {so s' : Sl} {pre : List Int} {x : Int} (hsz : w1.heap.size = w.heap.size + 1) (hB : Boxed W w.heap.size 23 so.val) (hO : ∀ b, so.owns b → w.heap.size + 1 ≤ b ∧ ∃ c t f, W.heap[b]? = some (.cells c t f)) (hK : Kept (z76 w) w1 W) (hn : so.n = pre.length) (hg : Grow W W1)
 (c1 : Cells w' s' 1 (pre.map I ++ [I x])) (c2 : Room w' s' 1) (c3 : Kept so.owns W1 w') (c4 : ∀ b, s'.owns b → so.owns b ∨ (W1.heap.size ≤ b ∧ b < w'.heap.size)) (c5 : s'.n = so.n + 1) :
 KeepsFrom w1.heap.size W (w'.setCell ⟨w.heap.size, 0, none⟩ s'.val) ∧ Kept (z76 w) W (w'.setCell ⟨w.heap.size, 0, none⟩ s'.val) ∧ yf5 w w1 (pre ++ [x]) (w'.setCell ⟨w.heap.size, 0, none⟩ s'.val) := by
 have hb' := z4y hB hO hg c3
 have hW : w.heap.size + 1 ≤ W.heap.size := by have := hK.size; omega
 have hno : ∀ b, s'.owns b → w.heap.size + 1 ≤ b := fun b hb => by
  rcases c4 b hb with h | h
  · exact (hO b h).1
  · have := hg.size; omega
 have hk0 : Kept (fun k => k = w.heap.size ∨ so.owns k) W (w'.setCell ⟨w.heap.size, 0, none⟩ s'.val) :=
  ((hg.kept _).trans c3 (fun k _ h => Or.inr h)).setCell _ _ _ (fun _ => Or.inl rfl)
 have hk1 : Kept (z76 w) W (w'.setCell ⟨w.heap.size, 0, none⟩ s'.val) := hk0.mono (fun k _ h => by
  rcases h with h | h
  · exact Nat.le_of_eq h.symm
  · exact Nat.le_of_succ_le (hO k h).1)
 have hset : Kept (fun k => k = w.heap.size) w' (w'.setCell ⟨w.heap.size, 0, none⟩ s'.val) := (Kept.refl _ _).setCell _ _ _ (fun _ => rfl)
 refine ⟨⟨hk1.size, fun k o hk ho hc => ?_⟩, hk1, s', hb'.set _, ?_, c2.kept hset (fun b hb e => by have := hno b hb; have e : b = w.heap.size := e; omega), fun b hb => ⟨hno b hb, ?_⟩, by rw [c5, hn, List.length_append]; rfl, hK.trans hk1 (fun k _ h => h)⟩
 · rw [hk0.block k (Array.getElem?_eq_some_iff.1 ho).1 (fun h => ?_)]
   · exact ho
   · rcases h with h | h
     · omega
     · obtain ⟨_, c, t, f, h2⟩ := hO k h
       rw [h2] at ho; cases ho; cases hc
 · rw [List.map_append]
   exact c1.kept hset (fun b hb e => by have := hno b hb; have e : b = w.heap.size := e; omega)
 · have h1 := c1.cell pre.length (I x) (by simp)
   rw [← z77 hb] at h1
   obtain ⟨c, t, f, h2⟩ := yga h1
   refine ⟨c, t, f, ?_⟩
   rw [hset.block b (Array.getElem?_eq_some_iff.1 h2).1 (fun e => by have := hno b hb; have e : b = w.heap.size := e; omega)]
   exact h2
theorem zqx (w : World) (q : Nat) (x : Int) (h : w.blk q = cellsOf [x]) : Cells w (.mk q 0 1 1) 1 [I x] := by
 refine ⟨rfl, Nat.le_refl _, fun j u hu => ?_⟩
 have hj : j = 0 := by
  have := (List.getElem?_eq_some_iff.1 hu).1
  simp at this; exact this
 subst hj
 simp at hu
 subst hu
 show w.cell? ⟨q, 0 + 0, none⟩ = _
 rw [zip h (by simp)]
 rfl
set_option maxRecDepth 100000 in
set_option maxHeartbeats 2000000 in
theorem zlj (w : World) (s : Sl) (l : List Int) (R : Ints w s l) (hlen : l.length ≤ 1048576) (Bs : Nat) (hBs : w.cell? ⟨Bs, 0, none⟩ = some s.val) :
 Calls Tryz.prog 181 #[.slice none 0 0, .func (.func 159) #[] #[.pointer (some ⟨Bs, 0, none⟩)]] w fun e w' => ∃ s' : Sl, e = .returned s'.val ∧ Ints w' s' l ∧ Room w' s' 1 ∧ (∀ b, s'.owns b → w.heap.size ≤ b ∧ b < w'.heap.size) ∧ Grow w w' := by
 have hsb : 0 < l.length → s.b < w.heap.size := fun h => (zbd (R.cell 0 h)).1
 have hmx : Tryz.prog.follows .mixedOrders = true := by kernel_rfl
 refine (callsIn_wide (n := 5)).1 ?_
 refine callsIn_of_wp_marks Tryz.func181 rfl trivial ?_ rfl
 simp only [Tryz.ntmps181, List.size_toArray, List.length_cons, List.length_nil, Nat.reduceAdd, Nat.reduceSub, Array.replicate_succ, Array.replicate_zero, List.push_toArray, List.append_toArray, List.nil_append, List.cons_append]
 have HR := Lib.hid R
 clear R
 gi_wp2
 obtain ⟨w1, hw1⟩ : ∃ w1, w.alloc (.cells #[.slice none 0 0] 23) = w1 := ⟨_, rfl⟩
 have hsz : w1.heap.size = w.heap.size + 1 := by rw [← hw1, zaa]
 have hg1 : Grow w w1 := by rw [← hw1]; exact grI
 have bO : Boxed w1 w.heap.size 23 (.slice none 0 0) := by rw [← hw1]; exact Boxed.new w _ _
 have bN : w1.cell? ⟨Bs, 0, none⟩ = some s.val := by
  rw [← hw1, zbu, if_neg (by have := (zbd hBs).1; omega)]; exact hBs
 rw [hw1]
 refine wpIn_rangeFunc_ownH rfl (by omega) (gf := 159) (lb := #[.pointer (some ⟨Bs, 0, none⟩)]) (by simp [go_sem]) trivial (enters_of Tryz.func159 (by kernel_rfl) rfl)
  (zof _ (by omega) Bs (z76 w) s l hlen (fun h hc => by have := hsb h; have hc : w.heap.size ≤ s.b := hc; omega) w1 bN (HR.out.grow hg1))
  (fun {A B C} hA hB => hA.trans hB (fun _ _ h => h)) (fun W k o o' hk _ _ _ => (zwz (grownBy_putObj' W k o')).mono (fun j hj e => by have e : some j = some k := e; cases e; show w.heap.size ≤ _; omega)) (Below.refl _ _) (fun _ => rfl)
  (yf5 w w1) (fun _ _ _ => False) (z2g w w1 hsz) (fun _ _ _ _ _ hs _ _ => hs)
  ⟨.nil, bO, ⟨rfl, Nat.le_refl _, fun j u hu => by simp at hu⟩, Room.nil _ _, fun b h => h.elim, rfl, Kept.refl _ _⟩
  (fun x a' _ => a' = { tmps := #[.slice none 0 0, .func (.func 159) #[] #[.pointer (some ⟨Bs, 0, none⟩)], .pointer (some ⟨w.heap.size, 0, none⟩), undef, .slice none 0 0, .int .i64 x, .func (.func 159) #[] #[.pointer (some ⟨Bs, 0, none⟩)], .int .i64 x, undef, undef, undef, undef, undef], defers := [] })
  (fun x a' => by rintro _ W W' row h _ _; exact h) ?assign ?body ?done ?stop
 case assign =>
  rintro lp pre x W K hi hK
  gi_wp2
  exact hK _ _ (KeepsOthers.refl _ |>.from _) (Kept.refl _ W) hi rfl
 case body =>
  rintro lp pre x a' W hlp ⟨r, hr⟩ ⟨so, hb, hc, hrm, ho, hn, hk⟩ rfl hlt
  have hbc := hb.cell
  have hbf := hb.frozen
  have hbl := hb.lt
  have hpl : pre.length ≤ 1048576 := by omega
  have HC := Lib.hid hc
  have HRM := Lib.hid hrm
  have HO := Lib.hid ho
  have HK := Lib.hid hk
  have HB := Lib.hid hb
  clear hc hrm ho hk hb
  gi_wp2_with (gi_at_builtin; refine wpListIn_step fun K hK => ?_; rw [if_pos (by rfl)]; refine zng (by intro c; simp) ?_; refine zde _ _ 23 rfl 3 Tryz.t3 (.int .i64 0) 1 8 Tryz.underlying23 (by kernel_rfl) (by kernel_rfl) (by kernel_rfl) (by kernel_rfl) (by omega) rfl so (.mk _ 0 1 1) _ [I x] rfl rfl (HC.out.grow grI) (HRM.out.grow grI) (zqx _ _ _ (by go_simp; rfl)) (zau _) (zau [x]) (by rw [hn]; show pre.length + 1 ≤ 4194304; omega) ?_; intro s' w' c1 c2 c3 c4 c5 c6; refine hK _ _ ?_; clear hK K; have hB' := z4y HB.out HO.out (show Grow W (W.alloc (.cells (cellsOf [x]) 3)) from grI) c3; have hbc' := hB'.cell; have hbf' := hB'.frozen; have CC := Lib.hid (And.intro c1 (And.intro c2 (And.intro c3 (And.intro c4 c5)))); clear hB' c1 c2 c3 c4 c5 c6)
  exact yhs (W1 := W.alloc (.cells (cellsOf [x]) 3)) hsz HB.out HO.out HK.out hn grI CC.out.1 CC.out.2.1 CC.out.2.2.1 CC.out.2.2.2.1 CC.out.2.2.2.2
 case done =>
  rintro D ys W hD rfl ⟨so, hb, hc, hrm, ho, hn, hk⟩ hK
  have hbc := hb.cell
  gi_wp2
  refine ⟨by simp, .inl ⟨_, _, rfl, run_takeDeferred hK, ?_⟩⟩
  have hkp : Kept (fun k => some k = some D) W (W.putObj D (.deferred none)) := zwz (grownBy_putObj' W D _)
  have hD2 : ∀ b, so.owns b → ¬ some b = some D := fun b hb e => by
   cases e
   obtain ⟨_, c, t, f, h⟩ := ho D hb
   rw [hK] at h; cases h
  refine ⟨_, results_tmp rfl _ _ _, so, rfl, (hc.kept hkp hD2).ints, hrm.kept hkp hD2, fun b hb => ?_, ?_⟩
  · obtain ⟨h1, c, t, f, h2⟩ := ho b hb
    exact ⟨by omega, Nat.lt_of_lt_of_le (Array.getElem?_eq_some_iff.1 h2).1 hkp.size⟩
  · refine ((hg1.kept (z76 w)).trans (hk.trans (o1 := z76 w) hkp (fun k hk e => ?_)) (fun k hk e => e)).grow (fun k hk e => by have e : w.heap.size ≤ k := e; omega)
    have e : some k = some D := e
    cases e
    show w.heap.size ≤ _
    omega
 case stop =>
  rintro D c pre W _ _ h _
  exact h.elim
end Go.Proofs.YthfalocligkamaaGreatDoor
namespace Go.Proofs.YthfalocligkamaaGreatDoor
open Go Go.RowKit Go.Shelf Go.Sort
theorem zos (w : World) (s : Sl) (l : List Int) (R : Ints w s l) (hlen : l.length ≤ 1048576) (Bs : Nat) (hBs : w.cell? ⟨Bs, 0, none⟩ = some s.val) :
 Calls Tryz.prog 157 #[.func (.func 159) #[] #[.pointer (some ⟨Bs, 0, none⟩)]] w fun e w' => ∃ s' : Sl, e = .returned s'.val ∧ Ints w' s' l ∧ Room w' s' 1 ∧ (∀ b, s'.owns b → w.heap.size ≤ b ∧ b < w'.heap.size) ∧ Grow w w' := by
 have H := Lib.hid (zlj w s l R hlen Bs hBs)
 clear R hBs
 go_enter Tryz.func157, Tryz.ntmps157
 go_wp2_with (go_at_call 181; refine H.out.mono ?_; rintro e' w' ⟨s', rfl, hI, hR, hO, hG⟩; have HI := Lib.hid (And.intro hI (And.intro hR hO)); have HG := Lib.hid hG; clear hI hR hO hG)
 go_ret
 exact ⟨s', rfl, HI.out.1, HI.out.2.1, HI.out.2.2, HG.out⟩
theorem zsv {w : World} (os : Array Obj) (own : Nat → Prop) : Kept own w (Go.Sort.grow w os) := by
 refine ⟨rfl, rfl, rfl, by simp [Go.Sort.grow], fun k hk _ => ?_⟩
 exact heap_grow_old _ _ hk
theorem z3i (w : World) (s : Sl) (l : List Int) (R : Ints w s l) (hlen : l.length ≤ 1048576) (hr : Room w s 1) :
 Calls Tryz.prog 158 #[s.val] w fun e w' => e = .returned (.tuple #[]) ∧ Ints w' s (l.mergeSort fun x y => decide (x ≤ y)) ∧ Kept s.owns w w' := by
 cases l with
 | nil =>
   have hn : s.n = 0 := R.len
   have h0 : ∃ p c, s.val = .slice p 0 c := by
    cases s with
    | nil => exact ⟨none, 0, rfl⟩
    | mk b o n c => simp only [Sl.n] at hn; subst hn; exact ⟨_, c, rfl⟩
   obtain ⟨p, c, hv⟩ := h0
   rw [hv]
   refine (AnyM.slices_Sort_int_none Tryz.sortInts p c w).mono ?_
   rintro e w' ⟨rfl, rfl⟩
   exact ⟨rfl, by simpa using R, Kept.refl _ _⟩
 | cons x l =>
   generalize hl : x :: l = zs at *
   have hpos : 0 < zs.length := by rw [← hl]; simp
   cases s with
   | nil => have := R.len; simp [Sl.n] at this; omega
   | mk b o n c =>
     have hn : n = zs.length := R.len
     subst hn
     have hH : Holds (.int .i64) w b o zs.toArray := fun j hj => by
      have hj : j < zs.length := by simpa using hj
      have h1 := R.cell j hj
      have h2 := (hr.there j (by have : zs.length ≤ c := R.cap; simp only [Sl.c]; omega)).2
      refine ⟨?_, h2⟩
      rw [show w.cell? ⟨b, o + j, none⟩ = some (I (gt zs j)) from h1, zcw _ _ hj, getElem!_pos _ j (by simpa using hj)]; rfl
     have hb : b < w.heap.size := (zbd (R.cell 0 hpos)).1
     refine (AnyM.slices_Sort_int Tryz.sortInts b o c zs w hH hb (by omega)).mono ?_
     rintro e w' ⟨rfl, q, os, rfl⟩
     have hms : (zs.mergeSort fun x y => decide (x ≤ y)).length = zs.length := List.length_mergeSort _
     generalize zs.mergeSort (fun x y => decide (x ≤ y)) = ms at *
     have hK := zjl (Value.int .i64) w q b o ms.toArray
     have hG := zsv (w := Go.Sort.putRow (Value.int .i64) (Go.Sort.ahead w q) b o ms.toArray) os (fun _ => False)
     refine ⟨rfl, ⟨hms.symm, R.cap, fun j hj => ?_⟩, hK.trans hG (fun _ _ h => h.elim)⟩
     have hsz : ms.toArray.size = zs.toArray.size := by simp [hms]
     have h1 := cell?_putRow (Value.int .i64) (Go.Sort.ahead w q) b o zs.toArray ms.toArray hH hsz j (by simpa using hj)
     simp only [Sl.b, Sl.o]
     rw [hG.cell b (o + j) (zbd h1).1 (fun h => h), h1, getElem!_pos _ j (by simpa using hj)]
     simp [gt, hj]
theorem zt2 (w : World) (s : Sl) (l : List Int) (R : Ints w s l) (hlen : l.length ≤ 1048576) (Bs : Nat) (hBs : w.cell? ⟨Bs, 0, none⟩ = some s.val) :
 Calls Tryz.prog 136 #[.func (.func 159) #[] #[.pointer (some ⟨Bs, 0, none⟩)]] w fun e w' => ∃ s' : Sl, e = .returned s'.val ∧ Ints w' s' (l.mergeSort fun x y => decide (x ≤ y)) ∧ (∀ b, s'.owns b → w.heap.size ≤ b ∧ b < w'.heap.size) ∧ Grow w w' := by
 have H := Lib.hid (zos w s l R hlen Bs hBs)
 clear R hBs
 go_enter Tryz.func136, Tryz.ntmps136
 go_wp2_with (go_at_call 157; refine H.out.mono ?_; rintro e' w1 ⟨s', rfl, hI, hR, hO, hG⟩; have HI := Lib.hid hI; have HR := Lib.hid hR; have HO := Lib.hid hO; have HG := Lib.hid hG; clear hI hR hO hG)
 refine (z3i w1 s' l HI.out hlen HR.out).mono ?_
 rintro e' w2 ⟨rfl, hI2, hK⟩
 have HI2 := Lib.hid hI2
 have HK := Lib.hid hK
 clear hI2 hK
 go_wp2_with fail
 go_ret
 exact ⟨s', rfl, HI2.out, fun b hb => ⟨(HO.out b hb).1, Nat.lt_of_lt_of_le (HO.out b hb).2 HK.out.size⟩, HK.out.grow_of HG.out (fun k hk => (HO.out k hk).1)⟩
theorem zpa (n : Nat) : (idL n).length = n := by simp [idL]
theorem yb6 (n i : Nat) (h : i < n) : gt (idL n) i = i := by simp [idL, gt, h]
theorem zr8 (l o : List Int) (k : Nat) (h : k < o.length) : zj8 l (o.take (k + 1)) = zj8 l (o.take k) ++ [gt l (gt o k).toNat] := by
 unfold zj8
 rw [List.take_succ_eq_append_getElem h, List.map_append, zcw _ _ h]
 rfl
set_option maxRecDepth 100000 in
set_option maxHeartbeats 4000000 in
theorem z0u (w : World) (sl so : Sl) (l o : List Int) (RL : Ints w sl l) (RO : Ints w so o) (hl : l.length ≤ 1048576) (hp : o.Perm (idL l.length)) :
 Calls Tryz.prog 110 #[sl.val, so.val] w fun e w' => ∃ s' : Sl, e = .returned (.tuple #[s'.val, .nilIface]) ∧ Ints w' s' (zj8 l o) ∧ (∀ b, s'.owns b → w.heap.size ≤ b ∧ b < w'.heap.size) ∧ Grow w w' := by
 have hol : o.length = l.length := by rw [hp.length_eq, zpa]
 have hin : ∀ k, k < o.length → 0 ≤ gt o k ∧ gt o k < l.length := fun k hk => by
  have h1 := hp.mem_iff.1 (z5e o k hk)
  obtain ⟨i, hi, e⟩ := List.mem_map.1 (show gt o k ∈ (List.range l.length).map fun (i : Nat) => (i : Int) from h1)
  have := List.mem_range.1 hi
  omega
 have HSo := Lib.hid (fun W (g : Grow w W) Bs hBs => by have := zt2 W so o (RO.grow g) (by omega) Bs hBs; rw [zt1 o l.length hp] at this; exact this)
 have hln := RL.len
 have hon := RO.len
 rw [hol] at hon
 have HRL := Lib.hid RL
 have HRO := Lib.hid RO
 have HIN := Lib.hid hin
 have HOL := Lib.hid hol
 have HV := Lib.hid (fun W => zub so W)
 clear RL RO hp hin hol
 go_enter Tryz.func110, Tryz.ntmps110
 go_wp2_with (first | (go_at_call 137; refine (HV.out _).mono ?_; rintro e' w' ⟨rfl, rfl⟩) | (go_at_call 136; refine (HSo.out _ grI _ (by go_simp)).mono ?_; rintro e' w1 ⟨s1, rfl, hI1, hO1, hG1⟩; have HI1 := Lib.hid hI1; have HG1 := Lib.hid hG1; have hn1 := hI1.len; rw [zpa] at hn1; clear hI1 hO1 hG1))
 have hGW : Grow w w1 := (grI : Grow w (w.alloc (.cells #[so.val] 23))).trans HG1.out
 have HGW := Lib.hid hGW
 clear hGW HG1
 go_loopw [17] (fun i wr => ∃ k : Nat, k ≤ l.length ∧ i = .int .i64 k ∧ wr = w1) (fun i _ => l.length - (intOf i).toNat)
 case atStart => exact ⟨0, by omega, rfl, by first | rfl | trivial⟩
 case round =>
  obtain ⟨k, hk, rfl, rfl⟩ := hrel
  by_cases hlt : k < l.length
  · obtain ⟨q1, q2⟩ := HI1.out.at k (by rw [zpa]; exact hlt)
    rw [yb6 _ _ hlt] at q2
    go_wp2_with fail
    go_roundw
    case rel => exact ⟨k + 1, by omega, by go_num, by first | rfl | trivial⟩
    case measure => simp [intOf]; omega
  · go_wp2_with fail
    go_loopw [9, 35] (fun v i w2 => ∃ (k : Nat) (s : Sl), k ≤ l.length ∧ i = .int .i64 k ∧ v = s.val ∧ Made wr.heap.size w2 s 1 ((zj8 l (o.take k)).map I) ∧ s.n ≤ k ∧ Grow wr w2) (fun _ i _ => l.length - (intOf i).toNat)
    case atStart => exact ⟨0, .nil, by omega, rfl, rfl, Made.nil _ _ _, by simp [Sl.n], grI⟩
    case round =>
     obtain ⟨k2, s, hk2, rfl, rfl, hM, hsn, hG⟩ := hrel
     obtain ⟨x, rfl⟩ := hG
     have HM := Lib.hid hM
     clear hM
     by_cases hlt2 : k2 < l.length
     · have hko : k2 < o.length := by rw [HOL.out]; exact hlt2
       obtain ⟨p1, p2⟩ := (HRO.out.grow (HGW.out.trans (show Grow wr (wr.plus x) from grI))).at k2 hko
       obtain ⟨i0, i1⟩ := HIN.out k2 hko
       have HDS := Lib.hid (zr8 l o k2 hko)
       generalize gt o k2 = id at *
       obtain ⟨a, rfl⟩ := Int.eq_ofNat_of_zero_le i0
       obtain ⟨r1, r2⟩ := (HRL.out.grow (HGW.out.trans (show Grow wr (wr.plus x) from grI))).at a (by omega)
       rw [Int.toNat_natCast] at HDS
       generalize gt l a = y at *
       go_wp2_with (at_builtin; refine zbc rfl _ _ 23 rfl 3 Tryz.t3 (.int .i64 0) 1 8 Tryz.underlying23 (by kernel_rfl) (by kernel_rfl) (by kernel_rfl) (by kernel_rfl) (by omega) rfl wr s (.mk _ 0 1 1) ((zj8 l (o.take k2)).map I) [I y] rfl rfl (HM.out.grow grI) grI (zqx _ _ _ (by go_simp; rfl)) (zau _) (zau [y]) (by simp only [Sl.n] at hsn ⊢; omega) ?_; intro s2 y2 c1 _ c3 _; have C := Lib.hid (And.intro c1 c3); clear c1 c3)
       go_roundw
       case rel => exact ⟨k2 + 1, s2, by omega, by go_num, rfl, by rw [HDS.out, List.map_append]; exact C.out.1.grow grI, by rw [C.out.2]; simp only [Sl.n] at hsn ⊢; omega, grI⟩
       case measure => simp [intOf]; omega
     · have hfin : k2 = o.length := by rw [HOL.out]; omega
       have HM2 := HM.out
       rw [hfin, List.take_length] at HM2
       have HM3 := Lib.hid HM2
       clear HM2 hfin
       go_wp2_with fail
       go_ret2
       exact ⟨s, rfl, HM3.out.cells.ints, fun b hb => ⟨Nat.le_trans HGW.out.size (HM3.out.own b hb).1, (HM3.out.own b hb).2⟩, HGW.out.trans grI⟩
end Go.Proofs.YthfalocligkamaaGreatDoor
