/-
  The walks of event's made, Invert, set, and of state's Top.
  append, as a step of a walk: slices by their cells.
  A slice of one row, written out.
-/
import Derived.Test.YtibmnofpoenonaaGreatDoorEv
import Derived.Test.YtibmnofpoenonaaGreatDoorHost2
import Derived.Test.YtibmnofpoenonaaGreatDoorOwn
import Derived.Test.YtibmnofpoenonaaGreatDoorCheck
import Derived.Deep.RegionLaw
namespace Go.Proofs.YtibmnofpoenonaaGreatDoor
open Go Go.RowKit

@[go_sem ↓] theorem build_Object (ρ : Operand → Value) (dst : Option Tmp) (parts : Array (Nat × Operand)) (ty : TypeId) (pos : String) (after : Array Edge) (guard : Option (Nat × Bool)) :
    execOp ρ { dst, op := .build 49 parts, type := ty, pos, after, guard } = bdRow 49 (parts.map fun (i, x) => (i, ρ x)) := rfl
@[go_sem] theorem run_build_made (w : World) (a b c d : Int) :
    (bdRow 49 #[(0, .int .i64 a), (1, .int .i64 b), (2, .int .i64 c), (13, .int .i64 d), (3, .int .i64 10), (17, .int .i64 3)]).run Tryz.prog w
      = .ok (.value (.agg (cellsOf [a, b, c, 10, 0, 0, 0, 0, 0, 0, 0, 0, 0, d, 0, 0, 0, 3]))) w := by
  kernel_rfl
theorem loadVar_Object (w : World) (b : Nat) (h : (w.blk b).size = 18) : (loadVar 49 ⟨b, 0, none⟩).run Tryz.prog w = .ok (.agg (sub (w.blk b) 0 18)) w := by
  have := run_load_Object w b 0 (by omega)
  unfold ldRow at this
  rw [Sem.run_bind] at this
  simp only [Instr.loadAt, Instr.sureAddr, Sem.run_bind, Sem.run_pure, Result.andThen_ok] at this
  cases hr : (loadVar 49 ⟨b, 0, none⟩).run Tryz.prog w with
  | ok v w' => rw [hr] at this; simp at this; rw [this.1, this.2]
  | halt x w' => rw [hr] at this; simp [Result.andThen] at this
theorem results_Object {fn : Func} {p : Tmp} (h : fn.results = #[.cell p 49]) (tmps : Array Value) (w : World) (b : Nat) (hp : tmps.getD p undef = .pointer (some ⟨b, 0, none⟩)) (h1 : (w.blk b).size = 18) :
    (results fn tmps).run Tryz.prog w = .ok (.agg (sub (w.blk b) 0 18)) w := by
  unfold results
  rw [h]
  have e1 := loadVar_Object w b h1
  have hp' : tmps[p]?.getD undef = .pointer (some ⟨b, 0, none⟩) := by simpa using hp
  simp [asAddr, hp', e1]
theorem loadVar_Event (w : World) (b : Nat) (h : (w.blk b).size = 6) : (loadVar 84 ⟨b, 0, none⟩).run Tryz.prog w = .ok (.agg (sub (w.blk b) 0 6)) w := by
  have := run_load_Event w b 0 (by omega)
  unfold ldRow at this
  rw [Sem.run_bind] at this
  simp only [Instr.loadAt, Instr.sureAddr, Sem.run_bind, Sem.run_pure, Result.andThen_ok] at this
  cases hr : (loadVar 84 ⟨b, 0, none⟩).run Tryz.prog w with
  | ok v w' => rw [hr] at this; simp at this; rw [this.1, this.2]
  | halt x w' => rw [hr] at this; simp [Result.andThen] at this
theorem results_Event {fn : Func} {p : Tmp} (h : fn.results = #[.cell p 84]) (tmps : Array Value) (w : World) (b : Nat) (hp : tmps.getD p undef = .pointer (some ⟨b, 0, none⟩)) (h1 : (w.blk b).size = 6) :
    (results fn tmps).run Tryz.prog w = .ok (.agg (sub (w.blk b) 0 6)) w := by
  unfold results
  rw [h]
  have e1 := loadVar_Event w b h1
  have hp' : tmps[p]?.getD undef = .pointer (some ⟨b, 0, none⟩) := by simpa using hp
  simp [asAddr, hp', e1]
theorem made_any (e : List Int) (he : e.length = 6) (w : World) : Calls Tryz.prog 128 #[.agg (cellsOf e)] w fun x w' => x = .returned (.agg (cellsOf (evMade e))) ∧ Grow w w' := by
  go_enter Tryz.func128, Tryz.ntmps128
  go_wp2_with fail
  refine bodyPost_ret (results_Object rfl _ _ (w.heap.size + 1) rfl ?_) rfl ?_
  · go_simp
  · exact ⟨by go_simp; rfl, (by repeat (first | exact Grow.refl _ | refine Grow.andr ?_ | refine Grow.plus ?_ _ | refine Grow.alloc ?_ _ | refine Grow.drew ?_ | refine Grow.drewN ?_ _))⟩
theorem list6 (e : List Int) (he : e.length = 6) : e = [gt e 0, gt e 1, gt e 2, gt e 3, gt e 4, gt e 5] := by
  match e, he with
  | [a, b, c, d, f, g], _ => rfl
theorem invert_sets (e : List Int) (he : e.length = 6) : evInvert e = if gt e 0 = 0 then e.set 0 5 else if gt e 0 = 5 then e.set 0 0 else if gt e 0 = 1 then (((e.set 2 (gt e 4)).set 3 (gt e 5)).set 4 (gt e 2)).set 5 (gt e 3) else if evSets e = true then (e.set 3 (gt e 4)).set 4 (gt e 3) else e := by
  match e, he with
  | [a, b, c, d, f, g], _ =>
    unfold evInvert
    simp only [gt, List.getD_cons_zero, List.getD_cons_succ, List.set_cons_zero, List.set_cons_succ]
    by_cases h : a = 1
    · subst h; rfl
    · simp [h]
theorem set_yes (e : List Int) (he : e.length = 6) (b o : Nat) (x : Int) (w : World) (hb : b < w.heap.size) (hc : w.cell? ⟨b, o, none⟩ = some (I x)) (hf : w.frozen? ⟨b, o, none⟩ = false) (hx : x = gt e 3) :
    Calls Tryz.prog 108 #[.pointer (some ⟨b, o, none⟩), .agg (cellsOf e)] w fun r w' => r = .returned .nilIface ∧ Grow (w.setCell ⟨b, o, none⟩ (I (gt e 4))) w' := by
  have zb : ¬ b = w.heap.size := by omega
  have zb2 : ¬ w.heap.size = b := by omega
  subst hx
  go_enter Tryz.func108, Tryz.ntmps108
  go_wp2_with fail
  refine wp_region_grow (by kernel_rfl) (by kernel_rfl) ?_; (repeat (go_big_quiet_step ( fail ))); refine wpQuiet_nil ?_; rintro _ ⟨nx, rfl⟩
  go_wp2_with fail
  go_ret
  exact ⟨rfl, (by repeat (first | exact Grow.refl _ | refine Grow.andr ?_ | refine Grow.plus ?_ _ | refine Grow.alloc ?_ _ | refine Grow.drew ?_ | refine Grow.drewN ?_ _))⟩
theorem set_no (e : List Int) (he : e.length = 6) (b o : Nat) (x : Int) (w : World) (hb : b < w.heap.size) (hc : w.cell? ⟨b, o, none⟩ = some (I x)) (_hf : w.frozen? ⟨b, o, none⟩ = false) (hx : ¬ x = gt e 3) :
    Calls Tryz.prog 108 #[.pointer (some ⟨b, o, none⟩), .agg (cellsOf e)] w fun r w' => r = .returned (errV 20) ∧ Grow w w' := by
  have zb : ¬ b = w.heap.size := by omega
  have zb2 : ¬ w.heap.size = b := by omega
  go_enter Tryz.func108, Tryz.ntmps108
  go_wp2_with fail
  refine wp_region_grow (by kernel_rfl) (by kernel_rfl) ?_; (repeat (go_big_quiet_step ( fail ))); refine wpQuiet_nil ?_; rintro _ ⟨nx, rfl⟩
  go_wp2_with fail
  go_ret
  exact ⟨rfl, (by repeat (first | exact Grow.refl _ | refine Grow.andr ?_ | refine Grow.plus ?_ _ | refine Grow.alloc ?_ _ | refine Grow.drew ?_ | refine Grow.drewN ?_ _))⟩
theorem top_any (S : St) (V : SV) (w : World) (R : RepSt w V S) (z : Nat) (hz : z < 11) (hS : (S.list z).length ≤ 1048576) :
    Calls Tryz.prog 129 #[.agg (stA V S.num), .int .i64 z] w fun e w' => e = .returned (.tuple #[.int .i64 (if S.list z = [] then 0 else gt (S.list z) ((S.list z).length - 1)), .bool (decide (S.list z ≠ []))]) ∧ Grow w w' := by
  have hl := (R.list z hz).len
  cases hL : S.list z with
  | nil =>
    rw [hL] at hl
    go_enter Tryz.func129, Tryz.ntmps129
    go_wp2_with fail
    go_ret2
    exact ⟨rfl, (by repeat (first | exact Grow.refl _ | refine Grow.andr ?_ | refine Grow.plus ?_ _ | refine Grow.alloc ?_ _ | refine Grow.drew ?_ | refine Grow.drewN ?_ _))⟩
  | cons x l =>
    have hne : S.list z ≠ [] := by rw [hL]; simp
    have hlen : 0 < (S.list z).length := by rw [hL]; simp
    obtain ⟨hb, hc⟩ := (R.list z hz).at ((S.list z).length - 1) (by omega)
    rw [← hL, if_neg hne, decide_eq_true hne]
    generalize hk : (S.list z).length - 1 = k at *
    have hlk : (V.list z).n = k + 1 := by omega
    have hkb : k ≤ 1048576 := by omega
    clear hk hl hlen hne hL
    have t1 : decide ((z : Int) < 0) = false := by simp
    have b1 : (0 : Int) ≤ (z : Int) := by omega
    have b2 : (z : Int) < 11 := by omega
    have b3 : (0 : Int) ≤ (k : Int) := by omega
    have b4 : (k : Int) < (k : Int) + 1 := by omega
    have t2 : decide (11 ≤ (z : Int)) = false := by simp; omega
    have t3 : ((k : Int) + 1 == 0) = false := by simp; omega
    go_enter Tryz.func129, Tryz.ntmps129
    go_wp2_with fail
    refine wp_region_grow (by kernel_rfl) (by kernel_rfl) ?_; (repeat (go_big_quiet_step ( fail ))); refine wpQuiet_nil ?_; rintro _ ⟨nx, rfl⟩
    go_wp2_with fail
    go_ret2
    exact ⟨rfl, (by repeat (first | exact Grow.refl _ | refine Grow.andr ?_ | refine Grow.plus ?_ _ | refine Grow.alloc ?_ _ | refine Grow.drew ?_ | refine Grow.drewN ?_ _))⟩
end Go.Proofs.YtibmnofpoenonaaGreatDoor
namespace Go.Proofs.YtibmnofpoenonaaGreatDoor
open Go Go.RowKit

section
variable {P : Program} {w : World}
theorem wp_append_cells {o : Oper} {a : Act} {K : Act → World → Prop} {Q : Exit → Act → World → Prop} (s x : Operand) (t : TypeId) (ho : o.op = .call { callee := .builtin .append, args := #[s, x], argTypes := #[t, t] })
    (e : TypeId) (i : TypeInfo) (z : Value) (k bytes : Nat) (ht : P.underlying t = some (.slice e)) (hi : P.info? e = some i) (hz : i.zero = some z) (hk : i.size = k) (hby : i.bytes = bytes) (hbb : bytes ≤ 1024) (hzc : z.cells.size = k)
    (s1 s2 : Sl) (xs ys : List Value) (hs : a.eval s = s1.val) (hx : a.eval x = s2.val) (R : Cells w s1 k xs) (O : Room w s1 k) (R2 : Cells w s2 k ys) (h1 : ∀ u ∈ xs, u.oneCell' = true) (h2 : ∀ u ∈ ys, u.oneCell' = true) (hb : s1.n + s2.n ≤ 4194304)
    (h : ∀ s' w', Cells w' s' k (xs ++ ys) → Room w' s' k → Kept s1.owns w w' → (∀ b, s'.owns b → s1.owns b ∨ (w.heap.size ≤ b ∧ b < w'.heap.size)) → s'.n = s1.n + s2.n → (s'.isNil = true → s1.n + s2.n = 0) → K (a.put o.dst s'.val) w') : o.wp P a w K Q := by
  obtain ⟨s', w', hr, c1, c2, c3, c4, c5, c6⟩ := run_append_cells (P := P) w t t o.type e i z k bytes ht ht hi hz hk hby hbb hzc s1 s2 xs ys R O R2 h1 h2 hb
  unfold Oper.wp execOp
  simp only [ho, resolve, invoke, builtin, Sem.run_bind, Sem.run_pure, Result.andThen_ok, List.map_toArray, List.map_cons, List.map_nil, hs, hx, hr]
  exact h s' w' c1 c2 c3 c4 c5 c6
theorem wpList_append_cells {ops : Array Oper} {rest : List Oper} {o : Oper} {a : Act} {Q : Exit → Act → World → Prop} (hgd : o.guard = none) (s x : Operand) (t : TypeId) (ho : o.op = .call { callee := .builtin .append, args := #[s, x], argTypes := #[t, t] })
    (e : TypeId) (i : TypeInfo) (z : Value) (k bytes : Nat) (ht : P.underlying t = some (.slice e)) (hi : P.info? e = some i) (hz : i.zero = some z) (hk : i.size = k) (hby : i.bytes = bytes) (hbb : bytes ≤ 1024) (hzc : z.cells.size = k)
    (s1 s2 : Sl) (xs ys : List Value) (hs : a.eval s = s1.val) (hx : a.eval x = s2.val) (R : Cells w s1 k xs) (O : Room w s1 k) (R2 : Cells w s2 k ys) (h1 : ∀ u ∈ xs, u.oneCell' = true) (h2 : ∀ u ∈ ys, u.oneCell' = true) (hb : s1.n + s2.n ≤ 4194304)
    (h : ∀ s' w', Cells w' s' k (xs ++ ys) → Room w' s' k → Kept s1.owns w w' → (∀ b, s'.owns b → s1.owns b ∨ (w.heap.size ≤ b ∧ b < w'.heap.size)) → s'.n = s1.n + s2.n → (s'.isNil = true → s1.n + s2.n = 0) → wpList P ops Q rest (a.put o.dst s'.val) w') : wpList P ops Q (o :: rest) a w :=
  wpList_plain hgd fun _ hK => wp_append_cells s x t ho e i z k bytes ht hi hz hk hby hbb hzc s1 s2 xs ys hs hx R O R2 h1 h2 hb fun s' w' c1 c2 c3 c4 c5 c6 => hK _ _ (h s' w' c1 c2 c3 c4 c5 c6)
theorem step_append_cells {ops : Array Oper} {o : Oper} {a : Act} {K : Act → World → Prop} {Q : Exit → Act → World → Prop} {E : Prop} (hgd : o.guard = none) (s x : Operand) (t : TypeId) (ho : o.op = .call { callee := .builtin .append, args := #[s, x], argTypes := #[t, t] })
    (e : TypeId) (i : TypeInfo) (z : Value) (k bytes : Nat) (ht : P.underlying t = some (.slice e)) (hi : P.info? e = some i) (hz : i.zero = some z) (hk : i.size = k) (hby : i.bytes = bytes) (hbb : bytes ≤ 1024) (hzc : z.cells.size = k)
    (s1 s2 : Sl) (xs ys : List Value) (hs : a.eval s = s1.val) (hx : a.eval x = s2.val) (R : Cells w s1 k xs) (O : Room w s1 k) (R2 : Cells w s2 k ys) (h1 : ∀ u ∈ xs, u.oneCell' = true) (h2 : ∀ u ∈ ys, u.oneCell' = true) (hb : s1.n + s2.n ≤ 4194304)
    (h : ∀ s' w', Cells w' s' k (xs ++ ys) → Room w' s' k → Kept s1.owns w w' → (∀ b, s'.owns b → s1.owns b ∨ (w.heap.size ≤ b ∧ b < w'.heap.size)) → s'.n = s1.n + s2.n → (s'.isNil = true → s1.n + s2.n = 0) → K (a.put o.dst s'.val) w') :
    if Region.wanted o (yielded ops a.tmps) = true then Oper.wp P o a w K Q else E := by
  have hw : Region.wanted o (yielded ops a.tmps) = true := by simp [Region.wanted, hgd]
  rw [if_pos hw]
  exact wp_append_cells s x t ho e i z k bytes ht hi hz hk hby hbb hzc s1 s2 xs ys hs hx R O R2 h1 h2 hb h
theorem step_wanted {ops : Array Oper} {o : Oper} {a : Act} {K : Act → World → Prop} {Q : Exit → Act → World → Prop} {E : Prop} (hgd : o.guard = none) (h : Oper.wp P o a w K Q) : if Region.wanted o (yielded ops a.tmps) = true then Oper.wp P o a w K Q else E := by
  have hw : Region.wanted o (yielded ops a.tmps) = true := by simp [Region.wanted, hgd]
  rw [if_pos hw]
  exact h
end
/-- One number more, as a slice of its own. -/
theorem one_int (w : World) (b : Nat) (x : Int) (h : w.cell? ⟨b, 0, none⟩ = some (.int .i64 x)) : Cells w (.mk b 0 1 1) 1 [I x] := by
  refine ⟨rfl, Nat.le_refl _, fun j u hu => ?_⟩
  cases j with
  | zero => simp only [Sl.b, Sl.o, Nat.zero_add, h]; simpa using hu
  | succ j => simp at hu
theorem one_row (w : World) (b k : Nat) (r : List Int) (hr : r.length = k) (h : w.blk b = cellsOf r) : Cells w (.mk b 0 1 1) k (flat [r]) := by
  refine ⟨by simp [flat, Sl.n, hr], Nat.le_refl _, fun j u hu => ?_⟩
  have hj := (List.getElem?_eq_some_iff.1 hu).1
  simp [flat] at hu hj
  obtain ⟨v, h1, h2⟩ := hu
  simp only [Sl.b, Sl.o, Nat.zero_add]
  rw [blk_cell h hj, ← h2, gt_eq _ _ hj]
  rw [List.getElem?_eq_getElem hj] at h1
  rw [Option.some.inj h1]
theorem one_val (b : Nat) : Value.slice (some ⟨b, 0, none⟩) 1 1 = (Sl.mk b 0 1 1).val := rfl
theorem Cells.kept {own : Nat → Prop} {w w' : World} {s : Sl} {k : Nat} {xs : List Value} (h : Cells w s k xs) (g : Kept own w w') (hn : ∀ b, s.owns b → ¬ own b) : Cells w' s k xs := by
  refine ⟨h.len, h.cap, fun j u hu => ?_⟩
  have h1 := h.cell j u hu
  cases s with
  | nil =>
    have := h.len
    simp [Sl.n] at this
    subst this
    simp at hu
  | mk b o n c => rw [g.cell _ _ (cell_blk h1).1 (hn b rfl)]; exact h1
theorem Cells.grow {w w' : World} {s : Sl} {k : Nat} {xs : List Value} (h : Cells w s k xs) (g : Grow w w') : Cells w' s k xs := h.kept (g.kept (fun _ => False)) (fun _ _ h => h)
theorem Room.grow {w w' : World} {s : Sl} {k : Nat} (h : Room w s k) (g : Grow w w') : Room w' s k := Room.kept h (g.kept (fun _ => False)) (fun _ _ h => h)
theorem Off.setRow (w : World) (b : Nat) (cs : Array Value) : Off b w (w.setRow b cs) := by
  refine ⟨size_setRow _ _ _, fun k hk => ?_⟩
  simp only [World.setRow, Array.getElem?_modify]
  rw [if_neg (Ne.symm hk)]
theorem Off.setRow2 (w : World) (b : Nat) (cs ds : Array Value) : Off b (w.setRow b cs) (w.setRow b ds) := by
  refine ⟨by rw [size_setRow, size_setRow], fun k hk => ?_⟩
  simp only [World.setRow, Array.getElem?_modify]
  rw [if_neg (Ne.symm hk), if_neg (Ne.symm hk)]
theorem Cells.off {b k : Nat} {w w' : World} {s : Sl} {xs : List Value} (h : Cells w s k xs) (g : Off b w w') (hn : ∀ b', s.owns b' → b' ≠ b) : Cells w' s k xs := by
  refine ⟨h.len, h.cap, fun j u hu => ?_⟩
  have h1 := h.cell j u hu
  cases s with
  | nil =>
    have := h.len
    simp [Sl.n] at this
    subst this
    simp at hu
  | mk b' o n c => rw [World.cell?_of_block (g.block b' (hn b' rfl))]; exact h1
/-- What a callee has done to a state in a block. -/
def Done (w : World) (b : Nat) (V : SV) (rest : Array Value) (S' : St) (w' : World) : Prop := ∃ V', Put b (hoA V' S'.num rest) w w' ∧ RepSt w' V' S' ∧ ∀ k, V'.uses k → V.uses k ∨ (w.heap.size ≤ k ∧ k < w'.heap.size)
theorem Put.size {b : Nat} {cs : Array Value} {w w' : World} (h : Put b cs w w') : w.heap.size ≤ w'.heap.size := h.kept.size
theorem Put.free {b : Nat} {cs : Array Value} {w w' : World} (h : Put b cs w w') (hf : w.free b = true) : w'.free b = true := by
  obtain ⟨x, rfl⟩ := h
  rw [free_plus, if_pos (by rw [size_setRow]; exact free_lt hf), free_setRow]; exact hf
theorem Put.blk {b : Nat} {cs : Array Value} {w w' : World} (h : Put b cs w w') (hf : w.free b = true) : w'.blk b = cs := by
  obtain ⟨x, rfl⟩ := h
  rw [blk_plus, if_pos (by rw [size_setRow]; exact free_lt hf), blk_setRow _ _ _ _ hf, if_pos rfl]
theorem Done.host {w w' : World} {b : Nat} {V : SV} {S S' : St} {rest : Array Value} (h : Host w b V S rest) (d : Done w b V rest S' w') : ∃ V', Host w' b V' S' rest ∧ Put b (hoA V' S'.num rest) w w' ∧ ∀ k, V'.uses k → V.uses k ∨ (w.heap.size ≤ k ∧ k < w'.heap.size) := by
  obtain ⟨V', hp, hr, hu⟩ := d
  have hl := h.lt
  refine ⟨V', ⟨hp.blk h.free, hp.free h.free, hr, fun hk => ?_, fun k hk => ?_⟩, hp, hu⟩
  · rcases hu b hk with h1 | h1
    · exact h.apart h1
    · omega
  · rcases hu k hk with h1 | h1
    · have := h.in' k h1; have := hp.size; omega
    · exact h1.2
end Go.Proofs.YtibmnofpoenonaaGreatDoor
namespace Go.Proofs.YtibmnofpoenonaaGreatDoor
open Go Go.RowKit

def bsRow (t : TypeId) (n : Nat) (parts : Array (Nat × Value)) : Sem Next := do pure (.value (← Instr.buildSlice t n parts))
@[go_sem ↓] theorem bslice_objs (ρ : Operand → Value) (dst : Option Tmp) (n : Nat) (parts : Array (Nat × Operand)) (ty : TypeId) (pos : String) (after : Array Edge) (guard : Option (Nat × Bool)) :
    execOp ρ { dst, op := .buildSlice 22 n parts, type := ty, pos, after, guard } = bsRow 22 n (parts.map fun (i, x) => (i, ρ x)) := rfl
set_option maxRecDepth 100000 in
theorem run_bs_objs (w : World) (a0 a1 a2 a3 a4 a5 a6 a7 a8 a9 a10 a11 a12 a13 a14 a15 a16 a17 : Int) : (bsRow 22 1 #[(0, .agg (cellsOf [a0, a1, a2, a3, a4, a5, a6, a7, a8, a9, a10, a11, a12, a13, a14, a15, a16, a17]))]).run Tryz.prog w = .ok (.value (.slice (some ⟨w.heap.size, 0, none⟩) 1 1)) (w.alloc (.cells (cellsOf [a0, a1, a2, a3, a4, a5, a6, a7, a8, a9, a10, a11, a12, a13, a14, a15, a16, a17]) 49)) := by
  kernel_rfl
@[go_sem] theorem run_bslice_objs (w : World) (r : List Int) (hr : r.length = 18) : (bsRow 22 1 #[(0, .agg (cellsOf r))]).run Tryz.prog w = .ok (.value (.slice (some ⟨w.heap.size, 0, none⟩) 1 1)) (w.alloc (.cells (cellsOf r) 49)) := by
  match r, hr with
  | [a0, a1, a2, a3, a4, a5, a6, a7, a8, a9, a10, a11, a12, a13, a14, a15, a16, a17], _ => exact run_bs_objs w a0 a1 a2 a3 a4 a5 a6 a7 a8 a9 a10 a11 a12 a13 a14 a15 a16 a17
@[go_sem ↓] theorem bslice_events (ρ : Operand → Value) (dst : Option Tmp) (n : Nat) (parts : Array (Nat × Operand)) (ty : TypeId) (pos : String) (after : Array Edge) (guard : Option (Nat × Bool)) :
    execOp ρ { dst, op := .buildSlice 54 n parts, type := ty, pos, after, guard } = bsRow 54 n (parts.map fun (i, x) => (i, ρ x)) := rfl
set_option maxRecDepth 100000 in
theorem run_bs_events (w : World) (a0 a1 a2 a3 a4 a5 : Int) : (bsRow 54 1 #[(0, .agg (cellsOf [a0, a1, a2, a3, a4, a5]))]).run Tryz.prog w = .ok (.value (.slice (some ⟨w.heap.size, 0, none⟩) 1 1)) (w.alloc (.cells (cellsOf [a0, a1, a2, a3, a4, a5]) 84)) := by
  kernel_rfl
@[go_sem] theorem run_bslice_events (w : World) (r : List Int) (hr : r.length = 6) : (bsRow 54 1 #[(0, .agg (cellsOf r))]).run Tryz.prog w = .ok (.value (.slice (some ⟨w.heap.size, 0, none⟩) 1 1)) (w.alloc (.cells (cellsOf r) 84)) := by
  match r, hr with
  | [a0, a1, a2, a3, a4, a5], _ => exact run_bs_events w a0 a1 a2 a3 a4 a5
end Go.Proofs.YtibmnofpoenonaaGreatDoor
