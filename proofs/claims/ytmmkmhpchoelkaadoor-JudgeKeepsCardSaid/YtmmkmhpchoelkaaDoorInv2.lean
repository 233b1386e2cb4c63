/-
  The walk of net's Invert, the caller's part.
-/
import Derived.Test.YtmmkmhpchoelkaaDoorInv
import Derived.Test.YtmmkmhpchoelkaaDoorMove
namespace Go.Proofs.YtmmkmhpchoelkaaDoor
open Go Go.RowKit Go.Shelf
attribute [local go_sem] Oper.semAt_some

theorem kept_of_grownBy {W W' : World} {row : Option Nat} (h : W.grownBy W' row) : Kept (fun k => some k = row) W W' :=
  ⟨h.os, h.tape, h.output, h.size, fun k hk hn => h.block k hk hn⟩
/-- Which blocks a loop of Invert's may turn. -/
def ownI (w : World) (k : Nat) : Prop := k = w.heap.size ∨ w.heap.size + 2 ≤ k
/-- What holds between two rounds. -/
def InvI (w w1 : World) (pre : List (Nat × Row6)) (W : World) : Prop :=
  ∃ so : Sl, Boxed W w.heap.size 43 so.val ∧ Cells W so 6 (flat (pre.map fun x => evInvert x.2.l)) ∧ Room W so 6 ∧ (∀ b, so.owns b → w.heap.size + 2 ≤ b ∧ ∃ c t f, W.heap[b]? = some (.cells c t f)) ∧ so.n = pre.length ∧ Kept (ownI w) w1 W
theorem invI_own (w w1 : World) (h1 : w1.heap.size = w.heap.size + 2) : OwnFrom w1.heap.size (InvI w w1) := by
  rintro pre W W' row ⟨so, hb, hc, hr, ho, hn, hk⟩ hg hrow
  have hkg := kept_of_grownBy hg
  have hno : ∀ b, so.owns b → ¬ some b = row := fun b hb e => by
    obtain ⟨_, o, h2, h3⟩ := hrow b e.symm
    obtain ⟨_, c, t, f, h4⟩ := ho b hb
    rw [h4] at h2
    cases h2
    cases h3
  refine ⟨so, hb.kept hg (fun e => by have := (hrow _ e.symm).1; omega), hc.kept hkg hno, hr.kept hkg hno, fun b hb => ?_, hn, hk.trans hkg (fun k hk e => ?_)⟩
  · obtain ⟨h4, c, t, f, h5⟩ := ho b hb
    refine ⟨h4, c, t, f, ?_⟩
    rw [hkg.block b (Array.getElem?_eq_some_iff.1 h5).1 (hno b hb)]; exact h5
  · have := (hrow k e.symm).1
    exact Or.inr (by omega)
theorem invI_alloc {w w1 : World} {pre : List (Nat × Row6)} {W : World} (h1 : w1.heap.size = w.heap.size + 2) (h : InvI w w1 pre W) (o : Obj) : InvI w w1 pre (W.alloc o) := (invI_own w w1 h1).alloc o h
/-- The loop's variable lies in a block. -/
def AxI (B : Nat) (acts : Nat → Nat × Row6 → Array Value) (x : Nat × Row6) (a : Act) (W : World) : Prop :=
  ∃ Bx, B ≤ Bx ∧ W.heap[Bx]? = some (.cells (cellsOf x.2.l) 42 (0, 0)) ∧ a = { tmps := acts Bx x, defers := [] }
theorem axI_own (B C : Nat) (acts : Nat → Nat × Row6 → Array Value) (x : Nat × Row6) (a : Act) : OwnFrom C (fun (_ : Unit) W => AxI B acts x a W) := by
  rintro _ W W' row ⟨Bx, h1, h2, h3⟩ hg hrow
  refine ⟨Bx, h1, ?_, h3⟩
  rw [hg.block Bx (Array.getElem?_eq_some_iff.1 h2).1 (fun e => ?_)]
  · exact h2
  · obtain ⟨_, o, h4, h5⟩ := hrow Bx e.symm
    rw [h4] at h2
    cases h2
    cases h5

@[go_sem ↓] theorem storeS_events (ρ : Operand → Value) (dst : Option Tmp) (x y : Operand) (ty : TypeId) (pos : String) (after : Array Edge) (guard : Option (Nat × Bool)) :
    execOp ρ { dst, op := .store 43 x y, type := ty, pos, after, guard } = stRow 43 (ρ x) (ρ y) := rfl
@[go_sem] theorem run_storeS_events (w : World) (b o : Nat) (s : Sl) (h : (w.cell? ⟨b, o, none⟩).isSome = true) (hf : w.frozen? ⟨b, o, none⟩ = false) : (stRow 43 (.pointer (some ⟨b, o, none⟩)) s.val).run Tryd.prog w = .ok .skip (w.setCell ⟨b, o, none⟩ s.val) :=
  run_stSl w b o 43 s (by kernel_rfl) h hf
@[go_sem] theorem run_storeX_events (w : World) (b o sb so n c : Nat) (h : (w.cell? ⟨b, o, none⟩).isSome = true) (hf : w.frozen? ⟨b, o, none⟩ = false) : (stRow 43 (.pointer (some ⟨b, o, none⟩)) (.slice (some ⟨sb, so, none⟩) n c)).run Tryd.prog w = .ok .skip (w.setCell ⟨b, o, none⟩ (.slice (some ⟨sb, so, none⟩) n c)) :=
  run_stSl w b o 43 (.mk sb so n c) (by kernel_rfl) h hf
theorem cell_cells {w : World} {b i : Nat} {v : Value} (h : w.cell? ⟨b, i, none⟩ = some v) : ∃ c t f, w.heap[b]? = some (.cells c t f) := by
  unfold World.cell? at h
  cases ho : w.heap[b]? with
  | none => rw [ho] at h; cases h
  | some o =>
    rw [ho] at h
    cases o <;> try (cases h; done)
    exact ⟨_, _, _, rfl⟩
theorem inv_boxed {w W W1 w' : World} {so : Sl} (hB : Boxed W w.heap.size 43 so.val) (hO : ∀ b, so.owns b → w.heap.size + 2 ≤ b ∧ ∃ c t f, W.heap[b]? = some (.cells c t f)) (hg : Grow W W1) (c3 : Kept so.owns W1 w') : Boxed w' w.heap.size 43 so.val := by
  show w'.heap[w.heap.size]? = _
  rw [c3.block _ (Nat.lt_of_lt_of_le hB.lt hg.size) (fun h => by have := (hO _ h).1; omega), (hg.kept (fun _ => False)).block _ hB.lt (fun h => h)]
  exact hB
theorem inv_step {w w1 W W1 w' : World} {so s' : Sl} {pre : List (Nat × Row6)} {x : Nat × Row6} (hsz : w1.heap.size = w.heap.size + 2) (hB : Boxed W w.heap.size 43 so.val) (hO : ∀ b, so.owns b → w.heap.size + 2 ≤ b ∧ ∃ c t f, W.heap[b]? = some (.cells c t f)) (hK : Kept (ownI w) w1 W) (hn : so.n = pre.length) (hg : Grow W W1)
    (c1 : Cells w' s' 6 (flat (pre.map fun x => evInvert x.2.l) ++ flat [evInvert x.2.l])) (hl : (evInvert x.2.l).length = 6) (c2 : Room w' s' 6) (c3 : Kept so.owns W1 w') (c4 : ∀ b, s'.owns b → so.owns b ∨ (W1.heap.size ≤ b ∧ b < w'.heap.size)) (c5 : s'.n = so.n + 1) :
    KeepsFrom w1.heap.size W (w'.setCell ⟨w.heap.size, 0, none⟩ s'.val) ∧ Kept (ownI w) W (w'.setCell ⟨w.heap.size, 0, none⟩ s'.val) ∧ InvI w w1 (pre ++ [x]) (w'.setCell ⟨w.heap.size, 0, none⟩ s'.val) := by
  have hb' := inv_boxed hB hO hg c3
  have hW : w.heap.size + 2 ≤ W.heap.size := by have := hK.size; omega
  have hno : ∀ b, s'.owns b → w.heap.size + 2 ≤ b := fun b hb => by
    rcases c4 b hb with h | h
    · exact (hO b h).1
    · have := hg.size; omega
  have hk0 : Kept (fun k => k = w.heap.size ∨ so.owns k) W (w'.setCell ⟨w.heap.size, 0, none⟩ s'.val) :=
    ((hg.kept _).trans c3 (fun k _ h => Or.inr h)).setCell _ _ _ (fun _ => Or.inl rfl)
  have hk1 : Kept (ownI w) W (w'.setCell ⟨w.heap.size, 0, none⟩ s'.val) := hk0.mono (fun k _ h => h.imp (fun h => h) (fun h => (hO k h).1))
  have hset : Kept (fun k => k = w.heap.size) w' (w'.setCell ⟨w.heap.size, 0, none⟩ s'.val) := (Kept.refl _ _).setCell _ _ _ (fun _ => rfl)
  refine ⟨⟨hk1.size, fun k o hk ho hc => ?_⟩, hk1, s', hb'.set _, ?_, c2.kept hset (fun b hb e => by have := hno b hb; have e : b = w.heap.size := e; omega), fun b hb => ⟨hno b hb, ?_⟩, by rw [c5, hn, List.length_append]; rfl, hK.trans hk1 (fun k _ h => h)⟩
  · rw [hk0.block k (Array.getElem?_eq_some_iff.1 ho).1 (fun h => ?_)]
    · exact ho
    · rcases h with h | h
      · omega
      · obtain ⟨_, c, t, f, h2⟩ := hO k h
        rw [h2] at ho; cases ho; cases hc
  · rw [List.map_append, flat_append]
    exact c1.kept hset (fun b hb e => by have := hno b hb; have e : b = w.heap.size := e; omega)
  · have hne : ∃ u, (flat (pre.map fun x => evInvert x.2.l) ++ flat [evInvert x.2.l])[0]? = some u := by
      have : 0 < (flat (pre.map fun x => evInvert x.2.l) ++ flat [evInvert x.2.l]).length := by
        rw [List.length_append]
        have : (flat [evInvert x.2.l]).length = 6 := by simp [flat, hl]
        omega
      exact ⟨_, List.getElem?_eq_getElem this⟩
    obtain ⟨u, hu⟩ := hne
    have h1 := c1.cell 0 u hu
    rw [← owns_b hb] at h1
    obtain ⟨c, t, f, h2⟩ := cell_cells h1
    refine ⟨c, t, f, ?_⟩
    rw [hset.block b (Array.getElem?_eq_some_iff.1 h2).1 (fun e => by have := hno b hb; have e : b = w.heap.size := e; omega)]
    exact h2
theorem evInvert_len {e : List Int} (h : e.length = 6) : (evInvert e).length = 6 := by
  unfold evInvert
  (repeat' split) <;> simp [h]
set_option maxRecDepth 100000 in
set_option maxHeartbeats 2000000 in
theorem invert_list (w : World) (s : Sl) (l : List (List Int)) (R : Rows' w s 6 l) (hlen : l.length ≤ 1048576) :
    Calls Tryd.prog 93 #[s.val] w fun e w' => ∃ s' : Sl, e = .returned s'.val ∧ Rows' w' s' 6 (invL l) ∧ Room w' s' 6 ∧ (∀ b, s'.owns b → w.heap.size ≤ b ∧ b < w'.heap.size) ∧ Grow w w' := by
  have hw := R.wid
  have hsb : 0 < l.length → s.b < w.heap.size := fun h => (cell_blk (R.cell 0 0 h (by omega))).1
  have hmx : Tryd.prog.follows .mixedOrders = true := by kernel_rfl
  refine (callsIn_wide (n := 5)).1 ?_
  refine callsIn_of_wp_marks Tryd.func93 rfl trivial ?_ rfl
  simp only [Tryd.ntmps93, List.size_toArray, List.length_cons, List.length_nil, Nat.reduceAdd, Nat.reduceSub, Array.replicate_succ, Array.replicate_zero, List.push_toArray, List.append_toArray, List.nil_append, List.cons_append]
  have HR := Lib.hid R
  have HW := Lib.hid hw
  clear R
  gi_wp2_with (refine ⟨trivial, ?_⟩; gi_at_call 108; refine (backward_in _ s _).mono ?_; rintro e w' ⟨rfl, rfl⟩)
  obtain ⟨w1, hw1⟩ : ∃ w1, (w.alloc (.cells #[.slice none 0 0] 43)).alloc (.cells #[s.val] 43) = w1 := ⟨_, rfl⟩
  have hsz : w1.heap.size = w.heap.size + 2 := by rw [← hw1, alloc_size', alloc_size']
  have hg1 : Grow w w1 := by rw [← hw1]; exact (by repeat (first | exact Grow.refl _ | refine Grow.andr ?_ | refine Grow.plus ?_ _ | refine Grow.alloc ?_ _ | refine Grow.drew ?_ | refine Grow.drewN ?_ _))
  have bO : Boxed w1 w.heap.size 43 (.slice none 0 0) := by rw [← hw1]; exact (Boxed.new w _ _).alloc _
  have bN : w1.cell? ⟨w.heap.size + 1, 0, none⟩ = some s.val := by
    have := Boxed.new (w.alloc (.cells #[.slice none 0 0] 43)) 43 s.val
    rw [alloc_size', hw1] at this
    exact this.cell
  rw [hw1]
  refine wpIn_rangeFunc_ownH rfl (by omega) (gf := 120) (lb := #[.pointer (some ⟨w.heap.size + 1, 0, none⟩)]) (by simp [go_sem]) trivial (enters_of Tryd.func120 (by kernel_rfl) rfl)
    (backward_stops _ (by omega) (w.heap.size + 1) (ownI w) s l hw hlen (fun h hc => by have := hsb h; rcases hc with h | h <;> omega) w1 bN (fun hc => by rcases hc with h | h <;> omega) (HR.out.grow hg1))
    (fun {A B C} hA hB => hA.trans hB (fun _ _ h => h)) (fun W k o o' hk _ _ _ => (kept_of_grownBy (grownBy_putObj' W k o')).mono (fun j hj e => by have e : some j = some k := e; cases e; exact Or.inr (by omega))) (Below.refl _ _) (fun _ => rfl)
    (InvI w w1) (fun _ _ _ => False) (invI_own w w1 hsz) (fun _ _ _ _ _ hs _ _ => hs)
    ⟨.nil, bO, ⟨rfl, Nat.le_refl _, fun j u hu => by simp [flat] at hu⟩, Room.nil _ _, fun b h => h.elim, rfl, Kept.refl _ _⟩
    (AxI (w.heap.size + 2) (fun Bx x => #[s.val, undef, .slice none 0 0, .pointer (some ⟨w.heap.size, 0, none⟩), undef, .pointer (some ⟨Bx, 0, none⟩), s.val, .func (.func 120) #[] #[.pointer (some ⟨w.heap.size + 1, 0, none⟩)], .int .i64 (x.1 : Int), .agg (cellsOf x.2.l), undef, undef, undef, undef, undef, undef]))
    (fun x a' => axI_own _ _ _ x a') ?assign ?body ?done ?stop
  case assign =>
    rintro lp pre x W K hi hK
    have hx := x.2.h
    dsimp only [encB]
    gi_wp2
    exact hK _ _ ((KeepsOthers.alloc _ _).from _) ((Kept.refl _ W).alloc _) (invI_alloc hsz hi _) ⟨W.heap.size, by obtain ⟨_, _, _, _, _, _, hk⟩ := hi; have := hk.size; omega, heap_alloc_new W _, rfl⟩
  case body =>
    rintro lp pre x a' W hlp ⟨r, hr⟩ ⟨so, hb, hc, hrm, ho, hn, hk⟩ ⟨Bx, hBx, hbx, rfl⟩ hlt
    have hx := x.2.h
    have hbc := hb.cell
    have hbf := hb.frozen
    have hbl := hb.lt
    have hBl : Bx < W.heap.size := (Array.getElem?_eq_some_iff.1 hbx).1
    have hBk : W.blk Bx = cellsOf x.2.l := by simp [World.blk, hbx]
    gi_wp2
    have hpl : pre.length ≤ 1048576 := by omega
    have HC := Lib.hid hc
    have HRM := Lib.hid hrm
    have HO := Lib.hid ho
    have HK := Lib.hid hk
    have HB := Lib.hid hb
    have HEI := Lib.hid (evInvert_len hx)
    have hei := evInvert_len hx
    clear hc hrm ho hk hb
    refine wpIn_region_any hmx (any_inRound (by kernel_rfl) ?hq _ _ _ _ ?_)
    case hq => rintro ⟨a, w, h⟩; exact h
    change wpAny _ _ _ _ _ _ _ (World.drew _)
    refine wpAny_ready (rs := [0, 1]) (by kernel_rfl) (by simp) ?_; refine AllReady.cons rfl (fun K hK => ?_) (AllReady.cons rfl (fun K hK => ?_) AllReady.nil) <;> simp only [List.getElem_toArray, List.getElem_cons_zero, List.getElem_cons_succ]
    · go_simp; refine hK _ _ ?_; clear hK K
      refine wpAny_ready (rs := [1]) (by kernel_rfl) (by simp) ?_; refine AllReady.cons rfl (fun K hK => ?_) AllReady.nil; simp only [List.getElem_toArray, List.getElem_cons_zero, List.getElem_cons_succ]
      go_simp; refine hK _ _ ?_; clear hK K
      refine wpAny_ready (rs := [2]) (by kernel_rfl) (by simp) ?_; refine AllReady.cons rfl (fun K hK => ?_) AllReady.nil; simp only [List.getElem_toArray, List.getElem_cons_zero, List.getElem_cons_succ]
      (go_simp; go_at_call 109; refine (invert_any x.2.l hx _).mono ?_; rintro e' w' ⟨rfl, nx, rfl⟩); (try go_simp); refine hK _ _ ?_; clear hK K
      refine wpAny_ready (rs := [3]) (by kernel_rfl) (by simp) ?_; refine AllReady.cons rfl (fun K hK => ?_) AllReady.nil; simp only [List.getElem_toArray, List.getElem_cons_zero, List.getElem_cons_succ]
      go_simp; refine hK _ _ ?_; clear hK K
      refine wpAny_ready (rs := [4]) (by kernel_rfl) (by simp) ?_; refine AllReady.cons rfl (fun K hK => ?_) AllReady.nil; simp only [List.getElem_toArray, List.getElem_cons_zero, List.getElem_cons_succ]
      (rw [if_pos (by rfl)]; refine wp_append_cells _ _ 43 rfl 42 Tryd.t42 (.agg (cellsOf (List.replicate 6 0))) 6 48 Tryd.underlying43 (by kernel_rfl) (by kernel_rfl) (by kernel_rfl) (by kernel_rfl) (by omega) rfl so (.mk _ 0 1 1) _ (flat [evInvert x.2.l]) rfl rfl (HC.out.grow (by repeat (first | exact Grow.refl _ | refine Grow.andr ?_ | refine Grow.plus ?_ _ | refine Grow.alloc ?_ _ | refine Grow.drew ?_ | refine Grow.drewN ?_ _))) (HRM.out.grow (by repeat (first | exact Grow.refl _ | refine Grow.andr ?_ | refine Grow.plus ?_ _ | refine Grow.alloc ?_ _ | refine Grow.drew ?_ | refine Grow.drewN ?_ _))) (one_row _ _ 6 (evInvert x.2.l) HEI.out (by go_simp)) (flat_oneCell _) (flat_oneCell _) (by rw [hn]; show pre.length + 1 ≤ 4194304; omega) ?_; intro s' w' c1 c2 c3 c4 c5 c6)
      have hGW : Grow W ((W.plus nx.late).alloc (.cells (cellsOf (evInvert x.2.l)) 42)) := (by repeat (first | exact Grow.refl _ | refine Grow.andr ?_ | refine Grow.plus ?_ _ | refine Grow.alloc ?_ _ | refine Grow.drew ?_ | refine Grow.drewN ?_ _))
      have hB' := inv_boxed HB.out HO.out hGW c3
      have hbc' := hB'.cell
      have hbf' := hB'.frozen
      have HB' := Lib.hid hB'
      have C1 := Lib.hid c1
      have C2 := Lib.hid c2
      have C3 := Lib.hid c3
      have C4 := Lib.hid c4
      have C5 := Lib.hid c5
      clear c1 c2 c3 c4 c5 c6 hB'
      (try go_simp); refine hK _ _ ?_; clear hK K
      refine wpAny_ready (rs := [5]) (by kernel_rfl) (by simp) ?_; refine AllReady.cons rfl (fun K hK => ?_) AllReady.nil; simp only [List.getElem_toArray, List.getElem_cons_zero, List.getElem_cons_succ]
      go_simp; refine hK _ _ ?_; clear hK K
      refine wpAny_done (by kernel_rfl) ?_ _
      exact inv_step hsz HB.out HO.out HK.out hn hGW C1.out HEI.out C2.out C3.out C4.out C5.out
    · go_simp; refine hK _ _ ?_; clear hK K
      refine wpAny_ready (rs := [0, 2]) (by kernel_rfl) (by simp) ?_; refine AllReady.cons rfl (fun K hK => ?_) (AllReady.cons rfl (fun K hK => ?_) AllReady.nil) <;> simp only [List.getElem_toArray, List.getElem_cons_zero, List.getElem_cons_succ]
      · go_simp; refine hK _ _ ?_; clear hK K
        refine wpAny_ready (rs := [2]) (by kernel_rfl) (by simp) ?_; refine AllReady.cons rfl (fun K hK => ?_) AllReady.nil; simp only [List.getElem_toArray, List.getElem_cons_zero, List.getElem_cons_succ]
        (go_simp; go_at_call 109; refine (invert_any x.2.l hx _).mono ?_; rintro e' w' ⟨rfl, nx, rfl⟩); (try go_simp); refine hK _ _ ?_; clear hK K
        refine wpAny_ready (rs := [3]) (by kernel_rfl) (by simp) ?_; refine AllReady.cons rfl (fun K hK => ?_) AllReady.nil; simp only [List.getElem_toArray, List.getElem_cons_zero, List.getElem_cons_succ]
        go_simp; refine hK _ _ ?_; clear hK K
        refine wpAny_ready (rs := [4]) (by kernel_rfl) (by simp) ?_; refine AllReady.cons rfl (fun K hK => ?_) AllReady.nil; simp only [List.getElem_toArray, List.getElem_cons_zero, List.getElem_cons_succ]
        (rw [if_pos (by rfl)]; refine wp_append_cells _ _ 43 rfl 42 Tryd.t42 (.agg (cellsOf (List.replicate 6 0))) 6 48 Tryd.underlying43 (by kernel_rfl) (by kernel_rfl) (by kernel_rfl) (by kernel_rfl) (by omega) rfl so (.mk _ 0 1 1) _ (flat [evInvert x.2.l]) rfl rfl (HC.out.grow (by repeat (first | exact Grow.refl _ | refine Grow.andr ?_ | refine Grow.plus ?_ _ | refine Grow.alloc ?_ _ | refine Grow.drew ?_ | refine Grow.drewN ?_ _))) (HRM.out.grow (by repeat (first | exact Grow.refl _ | refine Grow.andr ?_ | refine Grow.plus ?_ _ | refine Grow.alloc ?_ _ | refine Grow.drew ?_ | refine Grow.drewN ?_ _))) (one_row _ _ 6 (evInvert x.2.l) HEI.out (by go_simp)) (flat_oneCell _) (flat_oneCell _) (by rw [hn]; show pre.length + 1 ≤ 4194304; omega) ?_; intro s' w' c1 c2 c3 c4 c5 c6)
        have hGW : Grow W ((W.plus nx.late).alloc (.cells (cellsOf (evInvert x.2.l)) 42)) := (by repeat (first | exact Grow.refl _ | refine Grow.andr ?_ | refine Grow.plus ?_ _ | refine Grow.alloc ?_ _ | refine Grow.drew ?_ | refine Grow.drewN ?_ _))
        have hB' := inv_boxed HB.out HO.out hGW c3
        have hbc' := hB'.cell
        have hbf' := hB'.frozen
        have HB' := Lib.hid hB'
        have C1 := Lib.hid c1
        have C2 := Lib.hid c2
        have C3 := Lib.hid c3
        have C4 := Lib.hid c4
        have C5 := Lib.hid c5
        clear c1 c2 c3 c4 c5 c6 hB'
        (try go_simp); refine hK _ _ ?_; clear hK K
        refine wpAny_ready (rs := [5]) (by kernel_rfl) (by simp) ?_; refine AllReady.cons rfl (fun K hK => ?_) AllReady.nil; simp only [List.getElem_toArray, List.getElem_cons_zero, List.getElem_cons_succ]
        go_simp; refine hK _ _ ?_; clear hK K
        refine wpAny_done (by kernel_rfl) ?_ _
        exact inv_step hsz HB.out HO.out HK.out hn hGW C1.out HEI.out C2.out C3.out C4.out C5.out
      · (go_simp; go_at_call 109; refine (invert_any x.2.l hx _).mono ?_; rintro e' w' ⟨rfl, nx, rfl⟩); (try go_simp); refine hK _ _ ?_; clear hK K
        refine wpAny_ready (rs := [0, 3]) (by kernel_rfl) (by simp) ?_; refine AllReady.cons rfl (fun K hK => ?_) (AllReady.cons rfl (fun K hK => ?_) AllReady.nil) <;> simp only [List.getElem_toArray, List.getElem_cons_zero, List.getElem_cons_succ]
        · go_simp; refine hK _ _ ?_; clear hK K
          refine wpAny_ready (rs := [3]) (by kernel_rfl) (by simp) ?_; refine AllReady.cons rfl (fun K hK => ?_) AllReady.nil; simp only [List.getElem_toArray, List.getElem_cons_zero, List.getElem_cons_succ]
          go_simp; refine hK _ _ ?_; clear hK K
          refine wpAny_ready (rs := [4]) (by kernel_rfl) (by simp) ?_; refine AllReady.cons rfl (fun K hK => ?_) AllReady.nil; simp only [List.getElem_toArray, List.getElem_cons_zero, List.getElem_cons_succ]
          (rw [if_pos (by rfl)]; refine wp_append_cells _ _ 43 rfl 42 Tryd.t42 (.agg (cellsOf (List.replicate 6 0))) 6 48 Tryd.underlying43 (by kernel_rfl) (by kernel_rfl) (by kernel_rfl) (by kernel_rfl) (by omega) rfl so (.mk _ 0 1 1) _ (flat [evInvert x.2.l]) rfl rfl (HC.out.grow (by repeat (first | exact Grow.refl _ | refine Grow.andr ?_ | refine Grow.plus ?_ _ | refine Grow.alloc ?_ _ | refine Grow.drew ?_ | refine Grow.drewN ?_ _))) (HRM.out.grow (by repeat (first | exact Grow.refl _ | refine Grow.andr ?_ | refine Grow.plus ?_ _ | refine Grow.alloc ?_ _ | refine Grow.drew ?_ | refine Grow.drewN ?_ _))) (one_row _ _ 6 (evInvert x.2.l) HEI.out (by go_simp)) (flat_oneCell _) (flat_oneCell _) (by rw [hn]; show pre.length + 1 ≤ 4194304; omega) ?_; intro s' w' c1 c2 c3 c4 c5 c6)
          have hGW : Grow W ((W.plus nx.late).alloc (.cells (cellsOf (evInvert x.2.l)) 42)) := (by repeat (first | exact Grow.refl _ | refine Grow.andr ?_ | refine Grow.plus ?_ _ | refine Grow.alloc ?_ _ | refine Grow.drew ?_ | refine Grow.drewN ?_ _))
          have hB' := inv_boxed HB.out HO.out hGW c3
          have hbc' := hB'.cell
          have hbf' := hB'.frozen
          have HB' := Lib.hid hB'
          have C1 := Lib.hid c1
          have C2 := Lib.hid c2
          have C3 := Lib.hid c3
          have C4 := Lib.hid c4
          have C5 := Lib.hid c5
          clear c1 c2 c3 c4 c5 c6 hB'
          (try go_simp); refine hK _ _ ?_; clear hK K
          refine wpAny_ready (rs := [5]) (by kernel_rfl) (by simp) ?_; refine AllReady.cons rfl (fun K hK => ?_) AllReady.nil; simp only [List.getElem_toArray, List.getElem_cons_zero, List.getElem_cons_succ]
          go_simp; refine hK _ _ ?_; clear hK K
          refine wpAny_done (by kernel_rfl) ?_ _
          exact inv_step hsz HB.out HO.out HK.out hn hGW C1.out HEI.out C2.out C3.out C4.out C5.out
        · go_simp; refine hK _ _ ?_; clear hK K
          refine wpAny_ready (rs := [0]) (by kernel_rfl) (by simp) ?_; refine AllReady.cons rfl (fun K hK => ?_) AllReady.nil; simp only [List.getElem_toArray, List.getElem_cons_zero]
          go_simp; refine hK _ _ ?_; clear hK K
          refine wpAny_ready (rs := [4]) (by kernel_rfl) (by simp) ?_; refine AllReady.cons rfl (fun K hK => ?_) AllReady.nil; simp only [List.getElem_toArray, List.getElem_cons_zero, List.getElem_cons_succ]
          (rw [if_pos (by rfl)]; refine wp_append_cells _ _ 43 rfl 42 Tryd.t42 (.agg (cellsOf (List.replicate 6 0))) 6 48 Tryd.underlying43 (by kernel_rfl) (by kernel_rfl) (by kernel_rfl) (by kernel_rfl) (by omega) rfl so (.mk _ 0 1 1) _ (flat [evInvert x.2.l]) rfl rfl (HC.out.grow (by repeat (first | exact Grow.refl _ | refine Grow.andr ?_ | refine Grow.plus ?_ _ | refine Grow.alloc ?_ _ | refine Grow.drew ?_ | refine Grow.drewN ?_ _))) (HRM.out.grow (by repeat (first | exact Grow.refl _ | refine Grow.andr ?_ | refine Grow.plus ?_ _ | refine Grow.alloc ?_ _ | refine Grow.drew ?_ | refine Grow.drewN ?_ _))) (one_row _ _ 6 (evInvert x.2.l) HEI.out (by go_simp)) (flat_oneCell _) (flat_oneCell _) (by rw [hn]; show pre.length + 1 ≤ 4194304; omega) ?_; intro s' w' c1 c2 c3 c4 c5 c6)
          have hGW : Grow W ((W.plus nx.late).alloc (.cells (cellsOf (evInvert x.2.l)) 42)) := (by repeat (first | exact Grow.refl _ | refine Grow.andr ?_ | refine Grow.plus ?_ _ | refine Grow.alloc ?_ _ | refine Grow.drew ?_ | refine Grow.drewN ?_ _))
          have hB' := inv_boxed HB.out HO.out hGW c3
          have hbc' := hB'.cell
          have hbf' := hB'.frozen
          have HB' := Lib.hid hB'
          have C1 := Lib.hid c1
          have C2 := Lib.hid c2
          have C3 := Lib.hid c3
          have C4 := Lib.hid c4
          have C5 := Lib.hid c5
          clear c1 c2 c3 c4 c5 c6 hB'
          (try go_simp); refine hK _ _ ?_; clear hK K
          refine wpAny_ready (rs := [5]) (by kernel_rfl) (by simp) ?_; refine AllReady.cons rfl (fun K hK => ?_) AllReady.nil; simp only [List.getElem_toArray, List.getElem_cons_zero, List.getElem_cons_succ]
          go_simp; refine hK _ _ ?_; clear hK K
          refine wpAny_done (by kernel_rfl) ?_ _
          exact inv_step hsz HB.out HO.out HK.out hn hGW C1.out HEI.out C2.out C3.out C4.out C5.out
  case done =>
    rintro D ys W hD rfl ⟨so, hb, hc, hrm, ho, hn, hk⟩ hK
    have hbc := hb.cell
    gi_wp2
    refine ⟨by simp, .inl ⟨_, _, rfl, run_takeDeferred hK, ?_⟩⟩
    have hkp : Kept (fun k => some k = some D) W (W.putObj D (.deferred none)) := kept_of_grownBy (grownBy_putObj' W D _)
    have hD2 : ∀ b, so.owns b → ¬ some b = some D := fun b hb e => by
      cases e
      obtain ⟨_, c, t, f, h⟩ := ho D hb
      rw [hK] at h; cases h
    refine ⟨_, results_tmp rfl _ _ _, so, rfl, ?_, hrm.kept hkp hD2, fun b hb => ?_, ?_⟩
    · rw [← downB_all l hw]
      exact (hc.kept hkp hD2).rows (by omega) (wid_of (fun r hr => by
        obtain ⟨y, _, rfl⟩ := List.mem_map.1 hr
        exact evInvert_len y.2.h))
    · obtain ⟨h1, c, t, f, h2⟩ := ho b hb
      exact ⟨by omega, Nat.lt_of_lt_of_le (Array.getElem?_eq_some_iff.1 h2).1 hkp.size⟩
    · refine ((hg1.kept (ownI w)).trans (hk.trans (o1 := ownI w) hkp (fun k hk e => ?_)) (fun k hk e => e)).grow (fun k hk e => by rcases e with e | e <;> omega)
      have e : some k = some D := e
      cases e; exact Or.inr (by omega)
  case stop =>
    rintro D c pre W _ _ h _
    exact h.elim
end Go.Proofs.YtmmkmhpchoelkaaDoor
