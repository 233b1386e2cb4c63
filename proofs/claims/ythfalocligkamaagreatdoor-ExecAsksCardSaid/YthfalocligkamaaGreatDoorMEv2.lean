/- The walks of event's made, Invert, set, and of state's Top. -/
import Derived.Test.YthfalocligkamaaGreatDoorMRanges
import Derived.Test.YthfalocligkamaaGreatDoorMKept
import Derived.Deep.RegionLaw
import Derived.Deep.RegionHeld3
import Derived.Deep.DrawnRows
import Derived.Deep.RegionWith
import Derived.IntWalk
import Derived.Deep.DeepCutAuto
namespace Go.Proofs.YthfalocligkamaaGreatDoor
open Go Go.RowKit
@[go_sem ↓] theorem z42 (ρ : Operand → Value) (dst : Option Tmp) (parts : Array (Nat × Operand)) (ty : TypeId) (pos : String) (after : Array Edge) (guard : Option (Nat × Bool)) :
 execOp ρ { dst, op := .build 57 parts, type := ty, pos, after, guard } = za0 57 (parts.map fun (i, x) => (i, ρ x)) := rfl
@[go_sem] theorem zzu (w : World) (a b c d : Int) :
 (za0 57 #[(0, .int .i64 a), (1, .int .i64 b), (2, .int .i64 c), (13, .int .i64 d), (3, .int .i64 10), (17, .int .i64 3)]).run Tryz.prog w
   = .ok (.value (.agg (cellsOf [a, b, c, 10, 0, 0, 0, 0, 0, 0, 0, 0, 0, d, 0, 0, 0, 3]))) w := by
 kernel_rfl
theorem zkc (w : World) (b : Nat) (h : (w.blk b).size = 18) : (loadVar 57 ⟨b, 0, none⟩).run Tryz.prog w = .ok (.agg (sub (w.blk b) 0 18)) w := by
 have := zjx w b 0 (by omega)
 unfold za3 at this
 rw [Sem.run_bind] at this
 simp only [Instr.loadAt, Instr.sureAddr, Sem.run_bind, Sem.run_pure, Result.andThen_ok] at this
 cases hr : (loadVar 57 ⟨b, 0, none⟩).run Tryz.prog w with
 | ok v w' => rw [hr] at this; simp at this; rw [this.1, this.2]
 | halt x w' => rw [hr] at this; simp [Result.andThen] at this
theorem zkg {fn : Func} {p : Tmp} (h : fn.results = #[.cell p 57]) (tmps : Array Value) (w : World) (b : Nat) (hp : tmps.getD p undef = .pointer (some ⟨b, 0, none⟩)) (h1 : (w.blk b).size = 18) :
 (results fn tmps).run Tryz.prog w = .ok (.agg (sub (w.blk b) 0 18)) w := by
 unfold results
 rw [h]
 have e1 := zkc w b h1
 have hp' : tmps[p]?.getD undef = .pointer (some ⟨b, 0, none⟩) := by simpa using hp
 simp [asAddr, hp', e1]
theorem zg6 (e : List Int) (he : e.length = 6) (w : World) : Calls Tryz.prog 184 #[.agg (cellsOf e)] w fun x w' => x = .returned (.agg (cellsOf (zdt e))) ∧ Grow w w' := by
 go_enter Tryz.func184, Tryz.ntmps184
 go_wp2_with fail
 refine bodyPost_ret (zkg rfl _ _ (w.heap.size + 1) rfl ?_) rfl ?_
 · go_simp
 · exact ⟨by go_simp; rfl, grI⟩
theorem zpz (e : List Int) (he : e.length = 6) (b o : Nat) (x : Int) (w : World) (hb : b < w.heap.size) (hc : w.cell? ⟨b, o, none⟩ = some (I x)) (hf : w.frozen? ⟨b, o, none⟩ = false) (hx : x = gt e 3) :
 Calls Tryz.prog 163 #[.pointer (some ⟨b, o, none⟩), .agg (cellsOf e)] w fun r w' => r = .returned .nilIface ∧ Grow (w.setCell ⟨b, o, none⟩ (I (gt e 4))) w' := by
 have zb : ¬ b = w.heap.size := by omega
 have zb2 : ¬ w.heap.size = b := by omega
 subst hx
 go_enter Tryz.func163, Tryz.ntmps163
 go_wp2_with fail
 refine zab (by kernel_rfl) (by kernel_rfl) ?_; (repeat (go_big_quiet_step ( fail ))); refine wpQuiet_nil ?_; rintro _ ⟨nx, rfl⟩
 go_wp2_with fail
 go_ret
 exact ⟨rfl, grI⟩
theorem zyi (e : List Int) (he : e.length = 6) (b o : Nat) (x : Int) (w : World) (hb : b < w.heap.size) (hc : w.cell? ⟨b, o, none⟩ = some (I x)) (_hf : w.frozen? ⟨b, o, none⟩ = false) (hx : ¬ x = gt e 3) :
 Calls Tryz.prog 163 #[.pointer (some ⟨b, o, none⟩), .agg (cellsOf e)] w fun r w' => r = .returned (errV 20) ∧ Grow w w' := by
 have zb : ¬ b = w.heap.size := by omega
 have zb2 : ¬ w.heap.size = b := by omega
 go_enter Tryz.func163, Tryz.ntmps163
 go_wp2_with fail
 refine zab (by kernel_rfl) (by kernel_rfl) ?_; (repeat (go_big_quiet_step ( fail ))); refine wpQuiet_nil ?_; rintro _ ⟨nx, rfl⟩
 go_wp2_with fail
 go_ret
 exact ⟨rfl, grI⟩
theorem zj2 (S : St) (V : SV) (w : World) (R : RepSt w V S) (z : Nat) (hz : z < 11) (hS : (S.list z).length ≤ 1048576) :
 Calls Tryz.prog 104 #[.agg (stA V S.num), .int .i64 z] w fun e w' => e = .returned (.tuple #[.int .i64 (if S.list z = [] then 0 else gt (S.list z) ((S.list z).length - 1)), .bool (decide (S.list z ≠ []))]) ∧ Grow w w' := by
 have hl := (R.list z hz).len
 cases hL : S.list z with
 | nil =>
   rw [hL] at hl
   go_enter Tryz.func104, Tryz.ntmps104
   go_wp2_with fail
   go_ret2
   exact ⟨rfl, grI⟩
 | cons x l =>
   have hne : S.list z ≠ [] := by rw [hL]; simp
   have hlen : 0 < (S.list z).length := by rw [hL]; simp
   obtain ⟨hb, hc⟩ := (R.list z hz).at ((S.list z).length - 1) (by omega)
   rw [← hL, if_neg hne, decide_eq_true hne]
   generalize hk : (S.list z).length - 1 = k at *
   have hlk : (V.list z).n = k + 1 := by omega
   have hkb : k ≤ 1048576 := by omega
   clear hk hl hlen hne hL
   have t1 : decide ((z : Int) < 0) = false := by simp
   have b1 : (0 : Int) ≤ (z : Int) := by omega
   have b2 : (z : Int) < 11 := by omega
   have b3 : (0 : Int) ≤ (k : Int) := by omega
   have b4 : (k : Int) < (k : Int) + 1 := by omega
   have t2 : decide (11 ≤ (z : Int)) = false := by simp; omega
   have t3 : ((k : Int) + 1 == 0) = false := by simp; omega
   go_enter Tryz.func104, Tryz.ntmps104
   go_wp2_with fail
   refine zab (by kernel_rfl) (by kernel_rfl) ?_; (repeat (go_big_quiet_step ( fail ))); refine wpQuiet_nil ?_; rintro _ ⟨nx, rfl⟩
   go_wp2_with fail
   go_ret2
   exact ⟨rfl, grI⟩
end Go.Proofs.YthfalocligkamaaGreatDoor
namespace Go.Proofs.YthfalocligkamaaGreatDoor
open Go Go.RowKit
section
variable {P : Program} {w : World}
theorem zde {o : Oper} {a : Act} {K : Act → World → Prop} {Q : Exit → Act → World → Prop} (s x : Operand) (t : TypeId) (ho : o.op = .call { callee := .builtin .append, args := #[s, x], argTypes := #[t, t] })
 (e : TypeId) (i : TypeInfo) (z : Value) (k bytes : Nat) (ht : P.underlying t = some (.slice e)) (hi : P.info? e = some i) (hz : i.zero = some z) (hk : i.size = k) (hby : i.bytes = bytes) (hbb : bytes ≤ 1024) (hzc : z.cells.size = k)
 (s1 s2 : Sl) (xs ys : List Value) (hs : a.eval s = s1.val) (hx : a.eval x = s2.val) (R : Cells w s1 k xs) (O : Room w s1 k) (R2 : Cells w s2 k ys) (h1 : ∀ u ∈ xs, u.oneCell' = true) (h2 : ∀ u ∈ ys, u.oneCell' = true) (hb : s1.n + s2.n ≤ 4194304)
 (h : ∀ s' w', Cells w' s' k (xs ++ ys) → Room w' s' k → Kept s1.owns w w' → (∀ b, s'.owns b → s1.owns b ∨ (w.heap.size ≤ b ∧ b < w'.heap.size)) → s'.n = s1.n + s2.n → (s'.isNil = true → s1.n + s2.n = 0) → K (a.put o.dst s'.val) w') : o.wp P a w K Q := by
 obtain ⟨s', w', hr, c1, c2, c3, c4, c5, c6⟩ := zil (P := P) w t t o.type e i z k bytes ht ht hi hz hk hby hbb hzc s1 s2 xs ys R O R2 h1 h2 hb
 unfold Oper.wp execOp
 simp only [ho, resolve, invoke, builtin, Sem.run_bind, Sem.run_pure, Result.andThen_ok, List.map_toArray, List.map_cons, List.map_nil, hs, hx, hr]
 exact h s' w' c1 c2 c3 c4 c5 c6
theorem zgp {ops : Array Oper} {rest : List Oper} {o : Oper} {a : Act} {Q : Exit → Act → World → Prop} (hgd : o.guard = none) (s x : Operand) (t : TypeId) (ho : o.op = .call { callee := .builtin .append, args := #[s, x], argTypes := #[t, t] })
 (e : TypeId) (i : TypeInfo) (z : Value) (k bytes : Nat) (ht : P.underlying t = some (.slice e)) (hi : P.info? e = some i) (hz : i.zero = some z) (hk : i.size = k) (hby : i.bytes = bytes) (hbb : bytes ≤ 1024) (hzc : z.cells.size = k)
 (s1 s2 : Sl) (xs ys : List Value) (hs : a.eval s = s1.val) (hx : a.eval x = s2.val) (R : Cells w s1 k xs) (O : Room w s1 k) (R2 : Cells w s2 k ys) (h1 : ∀ u ∈ xs, u.oneCell' = true) (h2 : ∀ u ∈ ys, u.oneCell' = true) (hb : s1.n + s2.n ≤ 4194304)
 (h : ∀ s' w', Cells w' s' k (xs ++ ys) → Room w' s' k → Kept s1.owns w w' → (∀ b, s'.owns b → s1.owns b ∨ (w.heap.size ≤ b ∧ b < w'.heap.size)) → s'.n = s1.n + s2.n → (s'.isNil = true → s1.n + s2.n = 0) → wpList P ops Q rest (a.put o.dst s'.val) w') : wpList P ops Q (o :: rest) a w :=
 wpList_plain hgd fun _ hK => zde s x t ho e i z k bytes ht hi hz hk hby hbb hzc s1 s2 xs ys hs hx R O R2 h1 h2 hb fun s' w' c1 c2 c3 c4 c5 c6 => hK _ _ (h s' w' c1 c2 c3 c4 c5 c6)
theorem zdm {ops : Array Oper} {o : Oper} {a : Act} {K : Act → World → Prop} {Q : Exit → Act → World → Prop} {E : Prop} (hgd : o.guard = none) (s x : Operand) (t : TypeId) (ho : o.op = .call { callee := .builtin .append, args := #[s, x], argTypes := #[t, t] })
 (e : TypeId) (i : TypeInfo) (z : Value) (k bytes : Nat) (ht : P.underlying t = some (.slice e)) (hi : P.info? e = some i) (hz : i.zero = some z) (hk : i.size = k) (hby : i.bytes = bytes) (hbb : bytes ≤ 1024) (hzc : z.cells.size = k)
 (s1 s2 : Sl) (xs ys : List Value) (hs : a.eval s = s1.val) (hx : a.eval x = s2.val) (R : Cells w s1 k xs) (O : Room w s1 k) (R2 : Cells w s2 k ys) (h1 : ∀ u ∈ xs, u.oneCell' = true) (h2 : ∀ u ∈ ys, u.oneCell' = true) (hb : s1.n + s2.n ≤ 4194304)
 (h : ∀ s' w', Cells w' s' k (xs ++ ys) → Room w' s' k → Kept s1.owns w w' → (∀ b, s'.owns b → s1.owns b ∨ (w.heap.size ≤ b ∧ b < w'.heap.size)) → s'.n = s1.n + s2.n → (s'.isNil = true → s1.n + s2.n = 0) → K (a.put o.dst s'.val) w') :
 if Region.wanted o (yielded ops a.tmps) = true then Oper.wp P o a w K Q else E := by
 have hw : Region.wanted o (yielded ops a.tmps) = true := by simp [Region.wanted, hgd]
 rw [if_pos hw]
 exact zde s x t ho e i z k bytes ht hi hz hk hby hbb hzc s1 s2 xs ys hs hx R O R2 h1 h2 hb h
theorem zak {ops : Array Oper} {o : Oper} {a : Act} {K : Act → World → Prop} {Q : Exit → Act → World → Prop} {E : Prop} (hgd : o.guard = none) (h : Oper.wp P o a w K Q) : if Region.wanted o (yielded ops a.tmps) = true then Oper.wp P o a w K Q else E := by
 have hw : Region.wanted o (yielded ops a.tmps) = true := by simp [Region.wanted, hgd]
 rw [if_pos hw]
 exact h
end
theorem zdd (w : World) (b : Nat) (x : Int) (h : w.cell? ⟨b, 0, none⟩ = some (.int .i64 x)) : Cells w (.mk b 0 1 1) 1 [I x] := by
 refine ⟨rfl, Nat.le_refl _, fun j u hu => ?_⟩
 cases j with
 | zero => simp only [Sl.b, Sl.o, Nat.zero_add, h]; simpa using hu
 | succ j => simp at hu
theorem zd4 (w : World) (b k : Nat) (r : List Int) (hr : r.length = k) (h : w.blk b = cellsOf r) : Cells w (.mk b 0 1 1) k (zea [r]) := by
 refine ⟨by simp [zea, Sl.n, hr], Nat.le_refl _, fun j u hu => ?_⟩
 have hj := (List.getElem?_eq_some_iff.1 hu).1
 simp [zea] at hu hj
 obtain ⟨v, h1, h2⟩ := hu
 simp only [Sl.b, Sl.o, Nat.zero_add]
 rw [zip h hj, ← h2, zcw _ _ hj]
 rw [List.getElem?_eq_getElem hj] at h1
 rw [Option.some.inj h1]
theorem Cells.kept {own : Nat → Prop} {w w' : World} {s : Sl} {k : Nat} {xs : List Value} (h : Cells w s k xs) (g : Kept own w w') (hn : ∀ b, s.owns b → ¬ own b) : Cells w' s k xs := by
 refine ⟨h.len, h.cap, fun j u hu => ?_⟩
 have h1 := h.cell j u hu
 cases s with
 | nil =>
   have := h.len
   simp [Sl.n] at this
   subst this
   simp at hu
 | mk b o n c => rw [g.cell _ _ (zbd h1).1 (hn b rfl)]; exact h1
theorem Cells.grow {w w' : World} {s : Sl} {k : Nat} {xs : List Value} (h : Cells w s k xs) (g : Grow w w') : Cells w' s k xs := h.kept (g.kept (fun _ => False)) (fun _ _ h => h)
theorem Room.grow {w w' : World} {s : Sl} {k : Nat} (h : Room w s k) (g : Grow w w') : Room w' s k := Room.kept h (g.kept (fun _ => False)) (fun _ _ h => h)
theorem Off.setRow (w : World) (b : Nat) (cs : Array Value) : Off b w (w.setRow b cs) := by
 refine ⟨size_setRow _ _ _, fun k hk => ?_⟩
 simp only [World.setRow, Array.getElem?_modify]
 rw [if_neg (Ne.symm hk)]
theorem Off.setRow2 (w : World) (b : Nat) (cs ds : Array Value) : Off b (w.setRow b cs) (w.setRow b ds) := by
 refine ⟨by rw [size_setRow, size_setRow], fun k hk => ?_⟩
 simp only [World.setRow, Array.getElem?_modify]
 rw [if_neg (Ne.symm hk), if_neg (Ne.symm hk)]
theorem Cells.off {b k : Nat} {w w' : World} {s : Sl} {xs : List Value} (h : Cells w s k xs) (g : Off b w w') (hn : ∀ b', s.owns b' → b' ≠ b) : Cells w' s k xs := by
 refine ⟨h.len, h.cap, fun j u hu => ?_⟩
 have h1 := h.cell j u hu
 cases s with
 | nil =>
   have := h.len
   simp [Sl.n] at this
   subst this
   simp at hu
 | mk b' o n c => rw [World.cell?_of_block (g.block b' (hn b' rfl))]; exact h1
def Done (w : World) (b : Nat) (V : SV) (rest : Array Value) (S' : St) (w' : World) : Prop := ∃ V', Put b (hoA V' S'.num rest) w w' ∧ RepSt w' V' S' ∧ ∀ k, V'.uses k → V.uses k ∨ (w.heap.size ≤ k ∧ k < w'.heap.size)
theorem Put.size {b : Nat} {cs : Array Value} {w w' : World} (h : Put b cs w w') : w.heap.size ≤ w'.heap.size := h.kept.size
theorem Put.free {b : Nat} {cs : Array Value} {w w' : World} (h : Put b cs w w') (hf : w.free b = true) : w'.free b = true := by
 obtain ⟨x, rfl⟩ := h
 rw [zwh, if_pos (by rw [size_setRow]; exact zje hf), zd1]; exact hf
theorem Put.blk {b : Nat} {cs : Array Value} {w w' : World} (h : Put b cs w w') (hf : w.free b = true) : w'.blk b = cs := by
 obtain ⟨x, rfl⟩ := h
 rw [ze0, if_pos (by rw [size_setRow]; exact zje hf), zer _ _ _ _ hf, if_pos rfl]
theorem Done.host {w w' : World} {b : Nat} {V : SV} {S S' : St} {rest : Array Value} (h : Host w b V S rest) (d : Done w b V rest S' w') : ∃ V', Host w' b V' S' rest ∧ Put b (hoA V' S'.num rest) w w' ∧ ∀ k, V'.uses k → V.uses k ∨ (w.heap.size ≤ k ∧ k < w'.heap.size) := by
 obtain ⟨V', hp, hr, hu⟩ := d
 have hl := h.lt
 refine ⟨V', ⟨hp.blk h.free, hp.free h.free, hr, fun hk => ?_, fun k hk => ?_⟩, hp, hu⟩
 · rcases hu b hk with h1 | h1
   · exact h.apart h1
   · omega
 · rcases hu k hk with h1 | h1
   · have := h.in' k h1; have := hp.size; omega
   · exact h1.2
end Go.Proofs.YthfalocligkamaaGreatDoor
namespace Go.Proofs.YthfalocligkamaaGreatDoor
open Go Go.RowKit
def zdh (t : TypeId) (n : Nat) (parts : Array (Nat × Value)) : Sem Next := do pure (.value (← Instr.buildSlice t n parts))
@[go_sem ↓] theorem z6h (ρ : Operand → Value) (dst : Option Tmp) (n : Nat) (parts : Array (Nat × Operand)) (ty : TypeId) (pos : String) (after : Array Edge) (guard : Option (Nat × Bool)) :
 execOp ρ { dst, op := .buildSlice 22 n parts, type := ty, pos, after, guard } = zdh 22 n (parts.map fun (i, x) => (i, ρ x)) := rfl
set_option maxRecDepth 100000 in
theorem zpt (w : World) (a0 a1 a2 a3 a4 a5 a6 a7 a8 a9 a10 a11 a12 a13 a14 a15 a16 a17 : Int) : (zdh 22 1 #[(0, .agg (cellsOf [a0, a1, a2, a3, a4, a5, a6, a7, a8, a9, a10, a11, a12, a13, a14, a15, a16, a17]))]).run Tryz.prog w = .ok (.value (.slice (some ⟨w.heap.size, 0, none⟩) 1 1)) (w.alloc (.cells (cellsOf [a0, a1, a2, a3, a4, a5, a6, a7, a8, a9, a10, a11, a12, a13, a14, a15, a16, a17]) 57)) := by
 kernel_rfl
@[go_sem] theorem zxp (w : World) (r : List Int) (hr : r.length = 18) : (zdh 22 1 #[(0, .agg (cellsOf r))]).run Tryz.prog w = .ok (.value (.slice (some ⟨w.heap.size, 0, none⟩) 1 1)) (w.alloc (.cells (cellsOf r) 57)) := by
 match r, hr with
 | [a0, a1, a2, a3, a4, a5, a6, a7, a8, a9, a10, a11, a12, a13, a14, a15, a16, a17], _ => exact zpt w a0 a1 a2 a3 a4 a5 a6 a7 a8 a9 a10 a11 a12 a13 a14 a15 a16 a17
@[go_sem ↓] theorem z0g (ρ : Operand → Value) (dst : Option Tmp) (n : Nat) (parts : Array (Nat × Operand)) (ty : TypeId) (pos : String) (after : Array Edge) (guard : Option (Nat × Bool)) :
 execOp ρ { dst, op := .buildSlice 62 n parts, type := ty, pos, after, guard } = zdh 62 n (parts.map fun (i, x) => (i, ρ x)) := rfl
set_option maxRecDepth 100000 in
theorem zmb (w : World) (a0 a1 a2 a3 a4 a5 : Int) : (zdh 62 1 #[(0, .agg (cellsOf [a0, a1, a2, a3, a4, a5]))]).run Tryz.prog w = .ok (.value (.slice (some ⟨w.heap.size, 0, none⟩) 1 1)) (w.alloc (.cells (cellsOf [a0, a1, a2, a3, a4, a5]) 90)) := by
 kernel_rfl
@[go_sem] theorem ztf (w : World) (r : List Int) (hr : r.length = 6) : (zdh 62 1 #[(0, .agg (cellsOf r))]).run Tryz.prog w = .ok (.value (.slice (some ⟨w.heap.size, 0, none⟩) 1 1)) (w.alloc (.cells (cellsOf r) 90)) := by
 match r, hr with
 | [a0, a1, a2, a3, a4, a5], _ => exact zmb w a0 a1 a2 a3 a4 a5
end Go.Proofs.YthfalocligkamaaGreatDoor
namespace Go.Proofs.YthfalocligkamaaGreatDoor
open Go Go.RowKit Go.Shelf Go.Lib Go.Sort
attribute [local go_sem ↓] Go.wp_at_zero Go.wp_at_succ
theorem zjl {α : Type} [Inhabited α] (enc : α → Value) (w : World) (q b o : Nat) (d : Array α) : Kept (fun k => k = b) w (putRow enc (Go.Sort.ahead w q) b o d) := by
 refine ⟨rfl, rfl, rfl, by simp [Go.Sort.ahead], fun k _ hk => ?_⟩
 simp only [putRow, mapBlock, Go.Sort.ahead, Array.getElem?_modify]
 rw [if_neg (Ne.symm hk)]
theorem zoz (l : List Int) (i : Nat) : l.take i ++ l.drop (i + 1) = l.eraseIdx i := (List.eraseIdx_eq_take_drop_succ l i).symm
theorem z0v (w : World) (s : Sl) (l : List Int) (i : Nat) (hi : i < l.length) (hb : l.length ≤ 1048576) (base : Nat) (R : Own w s 3 1 base (l.map I)) :
 Calls Tryz.prog 203 #[s.val, .int .i64 i, .int .i64 (i + 1)] w fun e w' => ∃ s' : Sl, e = .returned s'.val ∧ Ints w' s' (l.eraseIdx i) ∧ Room w' s' 1 ∧ s'.b = s.b ∧ (∀ b, s'.owns b ↔ s.owns b) ∧ Kept s.owns w w' := by
 have hI := R.cells.ints
 cases s with
 | nil => have := hI.len; simp [Sl.n] at this; omega
 | mk b o n c =>
   have hn : n = l.length := hI.len
   subst hn
   have hH : Holds (.int .i64) w b o l.toArray := fun j hj => by
    have hj : j < l.length := by simpa using hj
    have h1 := hI.cell j hj
    have h2 := (R.room.there j (by have : l.length ≤ c := hI.cap; simp only [Sl.c]; omega)).2
    refine ⟨?_, h2⟩
    rw [show w.cell? ⟨b, o + j, none⟩ = some (I (gt l j)) from h1, zcw _ _ hj, getElem!_pos _ j (by simpa using hj)]; rfl
   have hd := AnyE.slices_Delete Tryz.delInts (.int .i64) (fun _ => rfl) 0 (fun w => by kernel_rfl) Tryz.t3 (by kernel_rfl) (by kernel_rfl) b o c i (i + 1) l.toArray w hH (by have : l.length ≤ c := hI.cap; simpa using this) (by have := R.max; unfold maxLen at this; exact this) (by omega) (by show i + 1 ≤ l.length; omega)
   rw [show l.toArray.size = l.length from rfl] at hd
   refine hd.mono ?_
   rintro e w' ⟨rfl, q, rfl⟩
   have hl2 : (l.toArray.toList.take i ++ l.toArray.toList.drop (i + 1) ++ List.replicate (i + 1 - i) (0 : Int)) = l.eraseIdx i ++ [0] := by
    rw [show l.toArray.toList = l from rfl, zoz, show i + 1 - i = 1 by omega]; rfl
   rw [hl2]
   have hel : (l.eraseIdx i).length = l.length - 1 := List.length_eraseIdx_of_lt hi
   have hsz : (l.eraseIdx i ++ [0]).toArray.size = l.toArray.size := by simp [hel]; omega
   have hK := zjl (.int .i64) w q b o (l.eraseIdx i ++ [0]).toArray
   have hH' : Holds (.int .i64) (Go.Sort.ahead w q) b o l.toArray := hH
   refine ⟨.mk b o (l.length - 1) c, by rw [show i + 1 - i = 1 by omega]; rfl, ⟨?_, ?_, fun j hj => ?_⟩, ⟨R.max, fun j hj => ?_⟩, rfl, fun _ => Iff.rfl, hK⟩
   · simp [Sl.n, hel]
   · have : l.length ≤ c := hI.cap
     simp only [Sl.n, Sl.c]; omega
   · have := cell?_putRow (.int .i64) (Go.Sort.ahead w q) b o l.toArray _ hH' hsz j (by simp; omega)
     simp only [Sl.b, Sl.o]
     rw [this, getElem!_pos _ j (by simp; omega)]
     simp [gt, hj]
   · obtain ⟨t1, t2⟩ := R.room.there j hj
     simp only [Sl.b, Sl.o] at t1 t2 ⊢
     rw [frozen?_putRow]
     refine ⟨?_, t2⟩
     by_cases hjl : j < l.length
     · have := cell?_putRow (.int .i64) (Go.Sort.ahead w q) b o l.toArray _ hH' hsz j (by rw [hsz]; simpa using hjl)
       rw [this]; rfl
     · rw [cell?_putRow_other _ _ _ _ _ _ (Or.inr (Or.inr (by show o + (l.eraseIdx i ++ [0]).toArray.size ≤ o + j; rw [hsz]; simp; omega)))]
       exact t1
abbrev idxL (l : List Int) (x : Int) : Int := Lib.idxOf l x
theorem z2b (w : World) (s : Sl) (l : List Int) (x : Int) (R : Ints w s l) (hb : l.length ≤ 1048576) :
 Calls Tryz.prog 138 #[s.val, .int .i64 x] w fun e w' => e = .returned (.int .i64 (idxL l x)) ∧ w' = w := by
 cases hl : l with
 | nil =>
   subst hl
   have hn := R.len
   have he := fun a c => AnyG.slices_Index_int_empty Tryz.idxInts a c x w
   cases s with
   | nil => exact (he none 0).mono fun e w' h => h
   | mk b o n c =>
     have : n = 0 := hn
     subst this
     exact (he (some ⟨b, o, none⟩) c).mono fun e w' h => h
 | cons y l' =>
   rw [← hl]
   cases s with
   | nil => have := R.len; rw [hl] at this; simp [Sl.n] at this
   | mk b o n c =>
     have hn : n = l.length := R.len
     subst hn
     refine (AnyG.slices_Index_int Tryz.idxInts b o l.length c l x w (Nat.le_refl _) (by omega) (fun j hj => R.cell j hj)).mono ?_
     rintro e w' ⟨rfl, rfl⟩
     exact ⟨by rw [List.take_of_length_le (Nat.le_refl _)], rfl⟩
theorem zm7 (w : World) (s : Sl) (l : List Int) (x : Int) (R : Ints w s l) (hb : l.length ≤ 1048576) :
 Calls Tryz.prog 111 #[s.val, .int .i64 x] w fun e w' => e = .returned (.int .i64 (idxL l x)) ∧ w' = w := by
 go_enter Tryz.func111, Tryz.ntmps111
 go_wp2_with (go_at_call 138; refine (z2b _ s l x R hb).mono ?_; rintro e' w' ⟨rfl, hww⟩; subst w')
 go_ret
 exact ⟨rfl, rfl⟩
theorem zhd (w : World) (s : Sl) (i : Int) :
 Calls Tryz.prog 202 #[s.val, .int .i64 i] w fun e w' => e = .returned (.bool (inR i s.n)) ∧ w' = w := by
 go_enter Tryz.func202, Tryz.ntmps202
 go_wp2_with fail
 all_goals (go_ret; exact ⟨zao (by (go_light; first | rfl | (simp [inR]; done) | (simp_all [inR]; done) | (simp [inR]; omega) | (simp_all [inR]; omega) | (grind [inR]))), rfl⟩)
theorem zct (w : World) (b o : Nat) (vs : List Value) (h : ∀ j, j < vs.length → (w.cell? ⟨b, o + j, none⟩).isSome = true) (p : Nat) : (w.setCells b o vs).cell? ⟨b, p, none⟩ = if o ≤ p ∧ p < o + vs.length then vs[p - o]? else w.cell? ⟨b, p, none⟩ := by
 by_cases hp : o ≤ p ∧ p < o + vs.length
 · rw [if_pos hp]
   have := World.cell?_setCells_in b vs o w h (p - o) (by omega)
   rw [show o + (p - o) = p by omega] at this
   rw [this, List.getElem?_eq_getElem (by omega)]
 · rw [if_neg hp, World.cell?_setCells_out b vs o w _ (fun _ _ => by show p < o ∨ o + vs.length ≤ p; omega)]
theorem zst (l : List Int) (i : Nat) (x : Int) (hi : i ≤ l.length) (j : Nat) : ((l.insertIdx i x).map I)[j]? = if j < i then (l.map I)[j]? else if j = i then some (I x) else (l.map I)[j - 1]? := by
 rw [List.getElem?_map, List.getElem?_insertIdx]
 by_cases h1 : j < i
 · simp [h1]
 · by_cases h2 : j = i
   · subst h2; simp [hi]
   · simp [h1, h2]
theorem zc0 (w : World) (a : Addr) : w.drew.cell? a = w.cell? a := rfl
theorem zqr (w : World) (s : Sl) (l : List Int) (i : Nat) (x : Int) (vb base : Nat) (hi : i ≤ l.length) (hb : l.length ≤ 1048576) (R : Own w s 3 1 base (l.map I)) (hv : w.heap[vb]? = some (.cells #[.int .i64 x] 3 (0, 0))) (hvn : ¬ s.owns vb) :
 Calls Tryz.prog 204 #[s.val, .int .i64 i, .slice (some ⟨vb, 0, none⟩) 1 1] w fun e w' => ∃ s' : Sl, e = .returned s'.val ∧ Ints w' s' (l.insertIdx i x) ∧ (∀ b, s'.owns b → s.owns b ∨ (w.heap.size ≤ b ∧ b < w'.heap.size)) ∧ Kept s.owns w w' := by
 have hI := R.cells.ints
 have hvs : ∀ j v, [I x][j]? = some v → w.cell? ⟨vb, 0 + j, none⟩ = some v := fun j v hj => by
  cases j with
  | zero => simp only [World.cell?, hv, Nat.zero_add]; simpa using hj
  | succ j => simp at hj
 have h1v : ∀ v ∈ [I x], v.oneCell' = true := by intro v hv; rw [List.mem_singleton] at hv; subst hv; rfl
 have hil : (l.insertIdx i x).length = l.length + 1 := by rw [List.length_insertIdx_of_le_length hi]
 have hfin : ∀ (w' : World) (b c : Nat), l.length + 1 ≤ c → (∀ j, j ≤ l.length → w'.cell? ⟨b, j, none⟩ = if j < i then (l.map I)[j]? else if j = i then some (I x) else (l.map I)[j - 1]?) → Ints w' (.mk b 0 (l.length + 1) c) (l.insertIdx i x) := fun w' b c hc h => by
  refine Cells.ints ⟨by rw [List.length_map, hil, Nat.mul_one]; rfl, hc, fun j u hu => ?_⟩
  have hj := (List.getElem?_eq_some_iff.1 hu).1
  rw [List.length_map, hil] at hj
  simp only [Sl.b, Sl.o, Nat.zero_add]
  rw [h j (by omega), ← zst l i x hi]; exact hu
 by_cases hroom : l.length + 1 ≤ s.c
 · cases s with
   | nil => simp [Sl.c] at hroom
   | mk b o n c =>
     have hroom : l.length + 1 ≤ c := hroom
     have hn : n = l.length := hI.len
     have ho : o = 0 := R.off
     subst hn ho
     have hcm : c ≤ 9223372036854775807 := by have := R.max; unfold maxLen at this; exact this
     have hth : ∀ j, j < c → (w.cell? ⟨b, 0 + j, none⟩).isSome = true ∧ w.frozen? ⟨b, 0 + j, none⟩ = false := fun j hj => R.room.there j (by rw [Nat.mul_one]; exact hj)
     have hth0 : ∀ j, j < c → (w.cell? ⟨b, j, none⟩).isSome = true := fun j hj => by have := (hth j hj).1; rwa [Nat.zero_add] at this
     have hcell : ∀ j, j < l.length → w.cell? ⟨b, j, none⟩ = (l.map I)[j]? := fun j hj => by
      have h1 : (l.map I)[j]? = some (I l[j]) := by simp [hj]
      have := R.cells.cell j _ h1
      simp only [Sl.b, Sl.o, Nat.zero_add] at this
      rw [this, h1]
     by_cases hlt : i < l.length
     · obtain ⟨_, cur, e1, e2⟩ := R.blk b rfl
       have e2 : cur.size = c * 1 := e2
       refine (Any2.slices_Insert_int_shift Tryz.insInts b 0 l.length c i vb 0 1 1 (l.map I) [I x] w hlt (by omega) hroom hcm (fun h => hvn (by rw [h]; rfl)) (by simp) rfl (fun j v hj => R.cells.cell j v hj) (fun j hj => (hth j (by omega)).1) (fun j hj => (hth j (by omega)).2) hvs (zau l) h1v 3 3 1 cur.size
        (by simp [World.shape?, hv]) (by simp [World.shape?, e1]) (by omega) (by simp [World.frozen?, hv]) (by simp [World.frozen?, hv])).mono ?_
       rintro e w' ⟨rfl, rfl⟩
       refine ⟨.mk b 0 (l.length + 1) c, rfl, hfin _ b c hroom fun j hj => ?_, fun b' h => Or.inl h, ?_⟩
       · rw [Nat.zero_add, Nat.zero_add, zct _ _ _ _ (fun q hq => by
          rw [zct _ _ _ _ (fun q hq => by rw [zc0]; exact hth0 _ (by simp at hq; omega))]
          split
          · rename_i h; rw [List.getElem?_eq_getElem (by omega)]; rfl
          · rw [zc0]; exact hth0 _ (by simp at hq; omega)),
          zct _ _ _ _ (fun q hq => by rw [zc0]; exact hth0 _ (by simp at hq; omega)), zc0]
         simp only [List.length_cons, List.length_nil, List.length_drop, List.length_map]
         by_cases h1 : j < i
         · rw [if_neg (by omega), if_neg (by omega), if_pos h1, hcell j (by omega)]
         · by_cases h2 : j = i
           · subst h2; rw [if_pos (by omega), if_neg (by omega), if_pos rfl, Nat.sub_self]; rfl
           · rw [if_neg (by omega), if_pos (by omega), if_neg h1, if_neg h2, List.getElem?_drop]; congr 1; omega
       · exact Kept.setCells (own := Sl.owns (.mk b 0 l.length c)) b (fun _ => rfl) _ _ _ (Kept.setCells (own := Sl.owns (.mk b 0 l.length c)) b (fun _ => rfl) _ _ _ (Kept.refl _ _).drew)
     · have hie : i = l.length := by omega
       subst hie
       refine (Any2.slices_Insert_int_end_room Tryz.insInts b 0 l.length c vb 0 1 1 [I x] w (by omega) hroom hcm rfl (fun j hj => ?_) (fun j hj => ?_) hvs h1v).mono ?_
       · have := (hth (l.length + j) (by omega)).1; rwa [← Nat.add_assoc] at this
       · have := (hth (l.length + j) (by omega)).2; rwa [← Nat.add_assoc] at this
       rintro e w' ⟨rfl, rfl⟩
       refine ⟨.mk b 0 (l.length + 1) c, rfl, hfin _ b c hroom fun j hj => ?_, fun b' h => Or.inl h, ?_⟩
       · rw [Nat.zero_add, zct _ _ _ _ (fun q hq => hth0 _ (by simp at hq; omega))]
         simp only [List.length_cons, List.length_nil]
         by_cases h1 : j < l.length
         · rw [if_neg (by omega), if_pos h1, hcell j h1]
         · rw [if_pos (by omega), if_neg h1, if_pos (by omega), show j - l.length = 0 by omega]; rfl
       · exact Kept.setCells (own := Sl.owns (.mk b 0 l.length c)) b (fun _ => rfl) _ _ _ (Kept.refl _ _)
 · have hcn : l.length ≤ s.c := by have := hI.cap; rw [hI.len] at this; exact this
   have hml : l.length + 1 ≤ maxLen := by unfold maxLen; omega
   have hcap := grownCap_ge w (l.length + 1) s.c 3
   by_cases hlt : i < l.length
   · cases s with
     | nil => have := hI.len; simp [Sl.n] at this; omega
     | mk b o n c =>
       have hroom : ¬ l.length + 1 ≤ c := hroom
       have hn : n = l.length := hI.len
       subst hn
       have hcap2 := grownCap_ge w (l.length + 1) c (Tryz.insInts_ren.t 3)
       refine (Any2.slices_Insert_int_grow Tryz.insInts b o l.length c i vb 0 1 1 (l.map I) [I x] w hlt (by omega) hcn (by omega) (by omega) (by simp) rfl (fun j v hj => R.cells.cell j v hj) hvs (zau l) h1v).mono ?_
       rintro e w' ⟨rfl, rfl⟩
       generalize Tryz.insInts_ren.t 3 = T at hcap2 ⊢
       generalize grownCap w (l.length + 1) c T = C at hcap2 ⊢
       clear hcap
       have hsz : (((l.map I).take i).toArray ++ Builtin.zeroCells (Value.int .i64 0).cells (l.length + 1 - i) ++ Builtin.zeroCells (Value.int .i64 0).cells (C - (l.length + 1))).size = C := by
        rw [Array.size_append, Array.size_append, size_zeroCells, size_zeroCells]
        simp [Value.cells]; omega
       have hth : ∀ j, j < C → ((w.alloc (.cells (((l.map I).take i).toArray ++ Builtin.zeroCells (Value.int .i64 0).cells (l.length + 1 - i) ++ Builtin.zeroCells (Value.int .i64 0).cells (C - (l.length + 1))) T)).drew.cell? ⟨w.heap.size, j, none⟩).isSome = true := fun j hj => by
        rw [zc0, zbu, if_pos rfl, Array.getElem?_eq_getElem (by rw [hsz]; exact hj)]; rfl
       refine ⟨.mk w.heap.size 0 (l.length + 1) C, rfl, hfin _ _ C hcap2 fun j hj => ?_, fun b' h => Or.inr ?_, ?_⟩
       · rw [zct _ _ _ _ (fun q hq => by
          rw [zc0, zct _ _ _ _ (fun q hq => hth _ (by simp at hq; omega))]
          split
          · rename_i h; rw [List.getElem?_eq_getElem (by omega)]; rfl
          · exact hth _ (by simp at hq; omega)),
          zc0, zct _ _ _ _ (fun q hq => hth _ (by simp at hq; omega)), zc0, zbu, if_pos rfl]
         simp only [List.length_cons, List.length_nil, List.length_drop, List.length_map]
         by_cases h1 : j < i
         · rw [if_neg (by omega), if_neg (by omega), if_pos h1, Array.getElem?_append_left (by rw [Array.size_append]; simp; omega), Array.getElem?_append_left (by simp; omega)]
           simp [h1]
         · by_cases h2 : j = i
           · subst h2; rw [if_neg (by omega), if_pos (by omega), if_neg (by omega), if_pos rfl, Nat.sub_self]; rfl
           · rw [if_pos (by omega), if_neg h1, if_neg h2, List.getElem?_drop]; congr 1; omega
       · have h : b' = w.heap.size := h
         subst h
         exact ⟨Nat.le_refl _, by
          have := (Kept.setCells (own := fun _ => True) (a := w.alloc (.cells #[] 0)) w.heap.size (fun _ => trivial) ((l.map I).drop i) (i + 1) _ ((Kept.setCells (own := fun _ => True) w.heap.size (fun _ => trivial) [I x] i _ (Kept.mk (own := fun _ => True) (w := w.alloc (.cells #[] 0)) (w' := (w.alloc (.cells (((l.map I).take i).toArray ++ Builtin.zeroCells (Value.int .i64 0).cells (l.length + 1 - i) ++ Builtin.zeroCells (Value.int .i64 0).cells (C - (l.length + 1))) T)).drew) rfl rfl rfl (by rw [zaa]; exact Nat.le_of_eq (zaa _ _).symm) (fun _ _ h => (h trivial).elim))).drew)).size
          rw [zaa] at this
          omega⟩
       · refine (Kept.setCells (own := Sl.owns (.mk b o l.length c)) w.heap.size (fun h => absurd h (Nat.lt_irrefl _)) _ _ _ (Kept.drew (Kept.setCells w.heap.size (fun h => absurd h (Nat.lt_irrefl _)) _ _ _ ((Kept.refl _ _).alloc _).drew)))
   · have hie : i = l.length := by omega
     subst hie
     obtain ⟨ao, hsv, hnil, hcs⟩ : ∃ ao, s.val = .slice ao l.length s.c ∧ (ao = none → l.length = 0) ∧ ∀ a, ao = some a → ∀ j v, (l.map I)[j]? = some v → w.cell? (a.add j) = some v := by
      cases s with
      | nil => have := hI.len; exact ⟨none, by rw [← this]; rfl, fun _ => this.symm, fun a h => by cases h⟩
      | mk b o n c =>
        have hn : n = l.length := hI.len
        subst hn
        refine ⟨some ⟨b, o, none⟩, rfl, fun h => (by cases h), fun a h j v hj => ?_⟩
        cases h
        rw [Addr.add_lit]; exact R.cells.cell j v hj
     rw [hsv]
     refine (Any2.slices_Insert_int_end_grow Tryz.insInts ao l.length s.c vb 0 1 1 (l.map I) [I x] w (by omega) hcn (by omega) (by omega) (by simp) rfl hnil hcs hvs h1v).mono ?_
     rintro e w' ⟨rfl, rfl⟩
     have hsz : w.heap.size = w.drew.heap.size := rfl
     refine ⟨.mk w.heap.size 0 (l.length + 1) (grownCap w (l.length + 1) s.c 3), rfl, hfin _ _ _ hcap fun j hj => ?_, fun b' h => Or.inr ?_, (Kept.refl _ _).drew.alloc _⟩
     · rw [zbu, if_pos hsz, Array.getElem?_append_left (by simp; omega)]
       by_cases h1 : j < l.length
       · rw [if_pos h1, List.getElem?_toArray, List.getElem?_append_left (by simpa using h1)]
       · have : j = l.length := by omega
         subst this; simp
     · have h : b' = w.heap.size := h
       subst h
       rw [zaa]
       exact ⟨Nat.le_refl _, Nat.lt_succ_self _⟩
end Go.Proofs.YthfalocligkamaaGreatDoor
namespace Go.Proofs.YthfalocligkamaaGreatDoor
open Go Go.RowKit Go.Shelf Go.Lib Go.Sort
attribute [local go_sem ↓] Go.wp_at_zero Go.wp_at_succ
theorem Kept.grow_of {own : Nat → Prop} {w w1 w2 : World} (h : Kept own w1 w2) (g : Grow w w1) (hn : ∀ k, own k → w.heap.size ≤ k) : Grow w w2 :=
 ((g.kept own).trans (o2 := own) h (fun _ _ h => h)).grow (fun k hk ho => Nat.not_lt.2 (hn k ho) hk)
theorem z5g (i n : Nat) (h : i < n) : inR (i : Int) n = true := by simp [inR, h]
theorem zxk (w : World) (s : Sl) (i : Int) (hi : inR i s.n = false) :
 Calls Tryz.prog 185 #[s.val, .int .i64 i] w fun e w' => e = .returned (.tuple #[.slice none 0 0, .int .i64 0, errV 1]) ∧ w' = w := by
 go_enter Tryz.func185, Tryz.ntmps185
 go_wp2_with (go_at_call 202; refine (zhd _ s _).mono ?_; rintro e' w' ⟨rfl, hww⟩; subst w')
 go_ret3
 exact ⟨rfl, rfl⟩
set_option maxHeartbeats 1000000 in
theorem zf2 (w : World) (s : Sl) (l : List Int) (i : Nat) (R : Ints w s l) (hi : i < l.length) (hb : l.length ≤ 1048576) :
 Calls Tryz.prog 185 #[s.val, .int .i64 i] w fun e w' => ∃ s' : Sl, e = .returned (.tuple #[s'.val, .int .i64 (gt l i), .nilIface]) ∧ Ints w' s' (l.eraseIdx i) ∧ (∀ b, s'.owns b → w.heap.size ≤ b ∧ b < w'.heap.size) ∧ Grow w w' := by
 have hin : inR (i : Int) s.n = true := by rw [R.len]; exact z5g i _ hi
 obtain ⟨hsb, hc⟩ := R.at i hi
 have h0 : (0 : Int) ≤ (i : Int) := by omega
 have h1 : (i : Int) < s.n := by rw [R.len]; omega
 have RH := Lib.hid R
 clear R
 go_enter Tryz.func185, Tryz.ntmps185
 go_wp2_with (go_at_call 202; refine (zhd _ s _).mono ?_; rintro e' w' ⟨rfl, hww⟩; subst w')
 have hwr : IntKind.i64.wrap ((i : Int) + 1) = (i : Int) + 1 := IntWalk.i64_in _ (by omega)
 go_region_with (first | (go_at_call 40; refine (zdi _ s l (RH.out.grow grI) hb).mono ?_; rintro e w' ⟨s1, rfl, hO, _, nx, rfl⟩; (try simp only [zae] at hO)) | (go_at_call 203; refine (z0v _ s1 l i hi hb _ hO).mono ?_; rintro e w' ⟨s2, rfl, hI2, hR2, hb2, hown, hK⟩; have hcW : w'.cell? ⟨s.b, s.o + i, none⟩ = some (I (gt l i)) := (by rw [hK.cell _ _ (by go_simp) (fun h => absurd hsb (Nat.not_lt.2 (hO.lt _ h).1))]; go_simp)))
 all_goals
  go_wp2_with fail
  go_ret3
  refine ⟨s2, rfl, hI2, fun b hb => ?_, ?_⟩
  · have := hO.lt b ((hown b).1 hb); exact ⟨this.1, Nat.lt_of_lt_of_le this.2 hK.size⟩
  · have hg : Grow w w' := hK.grow_of grI (fun k hk => (hO.lt k hk).1)
    first | exact hg | exact hg.drew | exact hg.drewN _
theorem zm8 (w : World) (s : Sl) (i x : Int) (hi : inR i (s.n + 1) = false) :
 Calls Tryz.prog 186 #[s.val, .int .i64 i, .int .i64 x] w fun e w' => e = .returned (.tuple #[.slice none 0 0, errV 1]) ∧ w' = w := by
 have hin : inR i s.n = false := by simp [inR] at hi ⊢; omega
 have hne : ¬ i = s.n := by simp [inR] at hi; omega
 clear hi
 go_enter Tryz.func186, Tryz.ntmps186
 go_wp2_with (go_at_call 202; refine (zhd _ s _).mono ?_; rintro e' w' ⟨rfl, hww⟩; subst w')
 go_ret2
 exact ⟨rfl, rfl⟩
set_option maxHeartbeats 1000000 in
theorem zky (w : World) (s : Sl) (l : List Int) (i : Nat) (x : Int) (R : Ints w s l) (hi : i ≤ l.length) (hb : l.length ≤ 1048576) :
 Calls Tryz.prog 186 #[s.val, .int .i64 i, .int .i64 x] w fun e w' => ∃ s' : Sl, e = .returned (.tuple #[s'.val, .nilIface]) ∧ Ints w' s' (l.insertIdx i x) ∧ (∀ b, s'.owns b → w.heap.size ≤ b ∧ b < w'.heap.size) ∧ Grow w w' := by
 have hl := R.len
 have RH := Lib.hid R
 by_cases he : i = s.n
 · subst he
   have HL := Lib.hid hl
   clear R hl
   go_enter Tryz.func186, Tryz.ntmps186
   go_wp2_with (first | (go_at_call 40; refine (zdi _ s l (RH.out.grow grI) hb).mono ?_; rintro e w' ⟨s1, rfl, hO, _, nx, rfl⟩; have HO := Lib.hid hO; clear hO) | (go_at_call 204; refine (zqr _ s1 l s.n x _ _ hi hb (HO.out.grow grI) (by rw [← zac]; exact heap_alloc_new _ _) (fun h => by have := (HO.out.lt _ h).2; rw [zac] at this; omega)).mono ?_; rintro e w' ⟨s2, rfl, hI2, hown, hK⟩))
   go_ret2
   refine ⟨s2, rfl, hI2, fun b hb => ?_, ?_⟩
   · rcases hown b hb with h | ⟨h, h2⟩
     · exact ⟨(HO.out.lt b h).1, Nat.lt_of_lt_of_le (HO.out.lt b h).2 (Nat.le_trans (Grow.size grI) hK.size)⟩
     · exact ⟨by rw [zaa, zac] at h; omega, h2⟩
   · exact hK.grow_of grI (fun k hk => (HO.out.lt k hk).1)
 · have hin : inR (i : Int) s.n = true := z5g i _ (by omega)
   have HL := Lib.hid hl
   clear R hl
   go_enter Tryz.func186, Tryz.ntmps186
   go_wp2_with (first | (go_at_call 202; refine (zhd _ s _).mono ?_; rintro e' w' ⟨rfl, hww⟩; subst w') | (go_at_call 40; refine (zdi _ s l (RH.out.grow grI) hb).mono ?_; rintro e w' ⟨s1, rfl, hO, _, nx, rfl⟩; have HO := Lib.hid hO; clear hO) | (go_at_call 204; refine (zqr _ s1 l i x _ _ hi hb (HO.out.grow grI) (by rw [← zac]; exact heap_alloc_new _ _) (fun h => by have := (HO.out.lt _ h).2; rw [zac] at this; omega)).mono ?_; rintro e w' ⟨s2, rfl, hI2, hown, hK⟩))
   go_ret2
   refine ⟨s2, rfl, hI2, fun b hb => ?_, ?_⟩
   · rcases hown b hb with h | ⟨h, h2⟩
     · exact ⟨(HO.out.lt b h).1, Nat.lt_of_lt_of_le (HO.out.lt b h).2 (Nat.le_trans (Grow.size grI) hK.size)⟩
     · exact ⟨by rw [zaa, zac] at h; omega, h2⟩
   · exact hK.grow_of grI (fun k hk => (HO.out.lt k hk).1)
end Go.Proofs.YthfalocligkamaaGreatDoor
namespace Go.Proofs.YthfalocligkamaaGreatDoor
open Go Go.RowKit
attribute [local go_sem ↓] Go.wp_at_zero Go.wp_at_succ
set_option maxRecDepth 100000 in
theorem zov (S : St) (V : SV) (b : Nat) (rest : Array Value) (e : List Int) (w : World) (H : Host w b V S rest) (h : 400 ≤ S.objs.length) :
 Calls Tryz.prog 160 #[.pointer (some ⟨b, 0, none⟩), .agg (cellsOf e)] w fun r w' => r = .returned (errV 5) ∧ Grow w w' := by
 have hN := H.rep.objs.len
 have hcell := zaf (H).free (H).blk; have hfz := zah (H).free; have hset := zag (H).free (H).blk; have hblk := (H).blk; have hfree := (H).free; have hlt := (H).lt; have hne1 : ¬ b = (w).heap.size := (by omega); have hne2 : ¬ (w).heap.size = b := (by omega)
 clear H
 go_enter Tryz.func160, Tryz.ntmps160
 go_wp2_with fail
 go_ret
 exact ⟨rfl, grI⟩
set_option maxRecDepth 100000 in
set_option maxHeartbeats 2000000 in
theorem zvr (S : St) (V : SV) (b : Nat) (rest : Array Value) (e : List Int) (he : e.length = 6) (w : World) (H : Host w b V S rest) (hS : Small S) (h : S.objs.length < 400) :
 Calls Tryz.prog 160 #[.pointer (some ⟨b, 0, none⟩), .agg (cellsOf e)] w fun r w' => r = .returned .nilIface ∧ Done w b V rest { S with objs := S.objs ++ [zdt e], list := upd S.list 10 (S.list 10 ++ [(S.objs.length : Int)]) } w' := by
 have hN := H.rep.objs.len
 have HH := Lib.hid H
 have hl10 := hS.list 10 (by omega)
 have hSO := hS.objs
 have hme : (zdt e).length = 18 := rfl
 have hl0 := (H.rep.list 10 (by omega)).len
 have hcell := zaf (H).free (H).blk; have hfz := zah (H).free; have hset := zag (H).free (H).blk; have hblk := (H).blk; have hfree := (H).free; have hlt := (H).lt; have hne1 : ¬ b = (w).heap.size := (by omega); have hne2 : ¬ (w).heap.size = b := (by omega)
 clear H
 go_enter Tryz.func160, Tryz.ntmps160
 go_upto_region 3 with fail
 go_cut [] (fun wx => ∃ (s2 : Sl) (y : Ext), wx = ((w.setRow b (hoA { V with list := upd V.list 10 s2 } S.num rest)).alloc (.cells (cellsOf e) 90)).plus y ∧ Cells wx s2 1 ((S.list 10).map I ++ [I (S.objs.length : Int)]) ∧ ∀ k, s2.owns k → w.heap.size + 1 ≤ k ∧ k < wx.heap.size)
 case first =>
  go_region_law (first | (refine zak (by rfl) ?_; go_simp; go_at_call 40; refine (zdi _ (V.list 10) (S.list 10) ((HH.out.rep.list 10 (by omega)).grow grI) hl10).mono ?_; rintro e w' ⟨s1, rfl, hO, _, nx, rfl⟩; (try simp only [zae] at hO); (try simp only [zad] at hO); have HO := Lib.hid (hO.mono (base' := w.heap.size + 1) (Nat.le_trans (Nat.le_of_eq (zaa w (.cells (cellsOf e) 90)).symm) (Grow.size grI))); clear hO) | ((refine zdm (by rfl) _ _ 23 (by rfl) 3 Tryz.t3 (.int .i64 0) 1 8 Tryz.underlying23 (by kernel_rfl) (by kernel_rfl) (by kernel_rfl) (by kernel_rfl) (by omega) rfl s1 (.mk _ 0 1 1) ((S.list 10).map I) [I (S.objs.length : Int)] (by rfl) (by rfl) (HO.out.cells.grow grI) (HO.out.room.grow grI) (zdd _ _ _ (by go_simp)) (zau _) (zau [(S.objs.length : Int)]) (by have := HO.out.cells.ints.len; simp only [Sl.n] at this ⊢; omega) ?_); intro s2 w2 c1 c2 c3 c4 c5 c6; obtain ⟨y, rfl⟩ : Grow (w.alloc (.cells (cellsOf e) 90)) w2 := c3.grow_of grI (fun k hk => by rw [zaa]; exact (HO.out.lt k hk).1)))
  all_goals
   go_wp2_with fail
   go_meet
   refine ⟨s2, y, rfl, c1.off (b := b) (by repeat (first | exact Off.setRow2 _ _ _ _ | exact Off.setRow _ _ _ | refine Off.plus ?_ _ | refine Off.alloc ?_ _)) (fun k hk => ?_), fun k hk => ?_⟩
   · rcases c4 k hk with h | h
     · have := (HO.out.lt k h).1; omega
     · have := h.1; simp only [zac, zaa] at this; omega
   · have h5 : k < ((w.alloc (.cells (cellsOf e) 90)).plus y).heap.size := by
      rcases c4 k hk with h | h
      · exact Nat.lt_of_lt_of_le (HO.out.lt k h).2 (Nat.le_trans (Grow.size grI) c3.size)
      · exact h.2
     have h6 : w.heap.size + 1 ≤ k := by
      rcases c4 k hk with h | h
      · exact (HO.out.lt k h).1
      · have := h.1; simp only [zac, zaa] at this; omega
     simp only [zac, zaa, size_setRow] at h5 ⊢
     exact ⟨h6, h5⟩
 case rest =>
  obtain ⟨s2, y, rfl, c1, c2⟩ := hcut
  have C1 := Lib.hid c1
  have C2 := Lib.hid c2
  clear c1 c2
  have hRO : Rows' (((w.setRow b (hoA { V with list := upd V.list 10 s2 } S.num rest)).alloc (.cells (cellsOf e) 90)).plus y) V.objs 18 S.objs :=
   (HH.out.rep.objs.off (Off.setRow w b _) (fun hl h => HH.out.apart (Or.inl (by rw [← h]; exact zbn HH.out.rep.objs hl)))).grow grI
  have HRO := Lib.hid hRO
  clear hRO
  generalize hL2 : upd V.list 10 s2 = L2 at *
  have HL2 := Lib.hid hL2
  clear hL2
  go_wp2_with fail
  go_region_law (first | (refine zak (by rfl) ?_; go_simp; go_at_call 62; refine (zdj _ V.objs S.objs (HRO.out.grow grI) hSO).mono ?_; rintro e' w' ⟨s1, rfl, hO, _, nx, rfl⟩; (try simp only [zae] at hO); (try simp only [zad] at hO); have HO := Lib.hid (hO.mono (base' := (((w.setRow b (hoA { V with list := L2 } S.num rest)).alloc (.cells (cellsOf e) 90)).plus y).heap.size) (Grow.size grI)); clear hO) | (refine zak (by rfl) ?_; go_simp; go_at_call 184; refine (zg6 e he _).mono ?_; rintro e' w' ⟨rfl, nz, rfl⟩) | ((refine zdm (by rfl) _ _ 22 (by rfl) 57 Tryz.t57 (.agg (cellsOf (List.replicate 18 0))) 18 144 Tryz.underlying22 (by kernel_rfl) (by kernel_rfl) (by kernel_rfl) (by kernel_rfl) (by omega) rfl s1 (.mk _ 0 1 1) (zea S.objs) (zea [zdt e]) (by rfl) (by rfl) (HO.out.cells.grow grI) (HO.out.room.grow grI) (zd4 _ _ 18 _ hme (by go_simp)) (zck _) (zck _) (by have := (HO.out.rows (by omega) HH.out.rep.objs.wid).len; simp only [Sl.n] at this ⊢; omega) ?_); intro s3 w2 d1 d2 d3 d4 d5 d6; obtain ⟨y2, rfl⟩ : Grow (((w.setRow b (hoA { V with list := L2 } S.num rest)).alloc (.cells (cellsOf e) 90)).plus y) w2 := d3.grow_of grI (fun k hk => (HO.out.lt k hk).1)))
  all_goals
   go_wp2_with fail
   go_ret
   rw [zad] at d1
   have d1' := d1.off (b := b) (w' := ((w.setRow b (hoA { objs := s3, list := L2 } S.num rest)).alloc (.cells (cellsOf e) 90)).plus (y.and y2)) (by repeat (first | exact Off.setRow2 _ _ _ _ | exact Off.setRow _ _ _ | refine Off.plus ?_ _ | refine Off.alloc ?_ _)) (fun k hk => by
    rcases d4 k hk with h | h
    · have := (HO.out.lt k h).1; simp only [zac, zaa, size_setRow] at this; omega
    · have := h.1; simp only [zac, zaa, size_setRow] at this; omega)
   refine ⟨rfl, ⟨s3, L2⟩, Put.of_grow grI, ⟨?_, fun z hz => ?_⟩, ?_⟩
   · rw [← zgl] at d1'
     exact d1'.rows (by omega) (zh6 HH.out.rep.objs.wid (fun i hi => by have : i = 0 := (by simp at hi; omega); subst this; exact hme))
   · show Ints _ (L2 z) (upd S.list 10 (S.list 10 ++ [(S.objs.length : Int)]) z)
     rw [← HL2.out]
     by_cases hz10 : z = 10
     · subst hz10
       rw [zbo, zbo]
       refine Cells.ints ?_
       rw [List.map_append]
       refine (C1.out.off (b := b) (w' := ((w.setRow b (hoA { objs := s3, list := L2 } S.num rest)).alloc (.cells (cellsOf e) 90)).plus y) (by repeat (first | exact Off.setRow2 _ _ _ _ | exact Off.setRow _ _ _ | refine Off.plus ?_ _ | refine Off.alloc ?_ _)) (fun k hk => by have := (C2.out k hk).1; omega)).grow ?_
       rw [HL2.out]
       exact grI
     · rw [zco _ _ _ _ hz10, zco _ _ _ _ hz10]
       refine ((HH.out.rep.list z hz).off (Off.setRow w b (hoA { objs := s3, list := L2 } S.num rest)) (fun hl h => HH.out.apart (Or.inr ⟨z, hz, by rw [← h]; exact zbs (HH.out.rep.list z hz) hl⟩))).grow ?_
       rw [HL2.out]
       exact grI
   · have hsz := d3.size
     rintro k (hk | ⟨z, hz, hk⟩)
     · right
       rcases d4 k hk with h | h
       · have h1 := HO.out.lt k h
         refine ⟨by have := h1.1; simp only [zac, zaa, size_setRow] at this; omega, Nat.lt_of_lt_of_le h1.2 (Nat.le_trans (Grow.size grI) (Nat.le_trans hsz ?_))⟩
         simp only [zac, zaa, size_setRow, Ext.and, Array.size_append]; omega
       · simp only [zac, zaa, size_setRow, Ext.and, Array.size_append] at h ⊢; omega
     · have hk : (L2 z).owns k := hk
       rw [← HL2.out] at hk
       by_cases hz10 : z = 10
       · subst hz10
         rw [zbo] at hk
         have := C2.out k hk
         right
         simp only [zac, zaa, size_setRow, Ext.and, Array.size_append] at this ⊢; omega
       · rw [zco _ _ _ _ hz10] at hk
         exact Or.inl (Or.inr ⟨z, hz, hk⟩)
end Go.Proofs.YthfalocligkamaaGreatDoor
namespace Go.Proofs.YthfalocligkamaaGreatDoor
open Go Go.RowKit
@[go_sem] theorem zzn (w : World) (a b : List Int) (ha : a.length = 18) (hb : b.length = 18) : (Op.equalIn 10000 57 (.agg (cellsOf a)) (.agg (cellsOf b))).run Tryz.prog w = .ok (decide (a = b)) w :=
 zdq w 57 3 18 Tryz.underlying57 Tryz.underlying3 (by kernel_rfl) 9998 a b ha hb
@[go_sem] theorem zx6 (w : World) (b o sb so n c : Nat) (h : (w.cell? ⟨b, o, none⟩).isSome = true) (hf : w.frozen? ⟨b, o, none⟩ = false) : (zaz 23 (.pointer (some ⟨b, o, none⟩)) (.slice (some ⟨sb, so, none⟩) n c)).run Tryz.prog w = .ok .skip (w.setCell ⟨b, o, none⟩ (.slice (some ⟨sb, so, none⟩) n c)) :=
 zcf w b o 23 (.mk sb so n c) (by kernel_rfl) h hf
@[go_sem] theorem zx7 (w : World) (b o sb so n c : Nat) (h : (w.cell? ⟨b, o, none⟩).isSome = true) (hf : w.frozen? ⟨b, o, none⟩ = false) : (zaz 22 (.pointer (some ⟨b, o, none⟩)) (.slice (some ⟨sb, so, none⟩) n c)).run Tryz.prog w = .ok .skip (w.setCell ⟨b, o, none⟩ (.slice (some ⟨sb, so, none⟩) n c)) :=
 zcf w b o 22 (.mk sb so n c) (by kernel_rfl) h hf
theorem Ints.cut {w : World} {b o n c : Nat} {l : List Int} (h : Ints w (.mk b o n c) l) (m c' : Nat) (hm : m ≤ l.length) (hc : m ≤ c') : Ints w (.mk b o m c') (l.take m) := by
 refine ⟨by simp [Sl.n]; omega, hc, fun i hi => ?_⟩
 have hi' : i < m := by simp at hi; omega
 have := h.cell i (by omega)
 simp only [Sl.b, Sl.o] at this ⊢
 rw [this]
 simp [gt, hi', show i < l.length by omega]
theorem Rows'.cut {w : World} {b o n c k : Nat} {l : List (List Int)} (h : Rows' w (.mk b o n c) k l) (m c' : Nat) (hm : m ≤ l.length) (hc : m ≤ c') : Rows' w (.mk b o m c') k (l.take m) := by
 have hr : ∀ i, i < (l.take m).length → rowAt (l.take m) i = rowAt l i := fun i hi => by
  have hi' : i < m := by simp at hi; omega
  simp [rowAt, hi', show i < l.length by omega]
 refine ⟨by simp [Sl.n]; omega, hc, fun i hi => by rw [hr i hi]; exact h.wid i (by simp at hi; omega), fun i j hi hj => ?_⟩
 rw [hr i hi]
 exact h.cell i j (by simp at hi; omega) hj
theorem z9a (S : St) (V : SV) (w : World) (R : RepSt w V S) (z : Nat) (hz : z < 11) (hS : (S.list z).length ≤ 1048576) (h : (S.list z).length = 0) :
 Calls Tryz.prog 104 #[.agg (stA V S.num), .int .i64 z] w fun e w' => e = .returned (.tuple #[.int .i64 0, .bool false]) ∧ Grow w w' := by
 have h0 : S.list z = [] := List.eq_nil_of_length_eq_zero h
 have := zj2 S V w R z hz hS
 simpa [h0] using this
theorem zml (S : St) (V : SV) (w : World) (R : RepSt w V S) (z : Nat) (hz : z < 11) (hS : (S.list z).length ≤ 1048576) (k : Nat) (h : (S.list z).length = k + 1) :
 Calls Tryz.prog 104 #[.agg (stA V S.num), .int .i64 z] w fun e w' => e = .returned (.tuple #[.int .i64 (gt (S.list z) k), .bool true]) ∧ Grow w w' := by
 have h0 : S.list z ≠ [] := by intro e; rw [e] at h; simp at h
 have := zj2 S V w R z hz hS
 rw [if_neg h0, decide_eq_true h0, h] at this
 exact this
set_option maxRecDepth 100000 in
set_option maxHeartbeats 1000000 in
theorem zpp (S : St) (V : SV) (b : Nat) (rest : Array Value) (e : List Int) (_he : e.length = 6) (w : World) (H : Host w b V S rest) (hS : Small S) (hm : S.objs.length = 0) :
 Calls Tryz.prog 161 #[.pointer (some ⟨b, 0, none⟩), .agg (cellsOf e)] w fun r w' => r = .returned (errV 20) ∧ Grow w w' := by
 have hN := H.rep.objs.len
 have HH := Lib.hid H
 have hl10 := hS.list 10 (by omega)
 have hSO := hS.objs
 have hme : (zdt e).length = 18 := rfl
 have hl0 := (H.rep.list 10 (by omega)).len
 have hcell := zaf (H).free (H).blk; have hfz := zah (H).free; have hset := zag (H).free (H).blk; have hblk := (H).blk; have hfree := (H).free; have hlt := (H).lt; have hne1 : ¬ b = (w).heap.size := (by omega); have hne2 : ¬ (w).heap.size = b := (by omega)
 clear H hS
 have ht := fun (W : World) (R : RepSt W V S) => zj2 S V W R 10 (by omega) hl10
 generalize (if S.list 10 = [] then 0 else gt (S.list 10) ((S.list 10).length - 1)) = x at ht
 generalize decide (S.list 10 ≠ []) = y at ht
 have HT := Lib.hid ht
 clear ht
 rw [hm] at hN
 clear hm
 go_enter Tryz.func161, Tryz.ntmps161
 go_wp2_with (go_at_call 104; refine (HT.out _ (HH.out.rep.grow grI)).mono ?_; rintro e' w' ⟨rfl, nx, rfl⟩)
 refine zab (by kernel_rfl) (by kernel_rfl) ?_; (repeat (go_big_quiet_step ( fail ))); refine wpQuiet_nil ?_; rintro _ ⟨nx, rfl⟩
 go_wp2_with fail
 go_ret
 exact ⟨rfl, grI⟩
set_option maxRecDepth 100000 in
set_option maxHeartbeats 1000000 in
theorem znp (S : St) (V : SV) (b : Nat) (rest : Array Value) (e : List Int) (_he : e.length = 6) (w : World) (H : Host w b V S rest) (hS : Small S) (m : Nat) (hm : S.objs.length = m + 1) (h0 : (S.list 10).length = 0) :
 Calls Tryz.prog 161 #[.pointer (some ⟨b, 0, none⟩), .agg (cellsOf e)] w fun r w' => r = .returned (errV 20) ∧ Grow w w' := by
 have hN := H.rep.objs.len
 have HH := Lib.hid H
 have hl10 := hS.list 10 (by omega)
 have hSO := hS.objs
 have hme : (zdt e).length = 18 := rfl
 have hl0 := (H.rep.list 10 (by omega)).len
 have hcell := zaf (H).free (H).blk; have hfz := zah (H).free; have hset := zag (H).free (H).blk; have hblk := (H).blk; have hfree := (H).free; have hlt := (H).lt; have hne1 : ¬ b = (w).heap.size := (by omega); have hne2 : ¬ (w).heap.size = b := (by omega)
 clear H hS
 have hmb : m ≤ 1048576 := by omega
 have HT := Lib.hid (fun (W : World) (R : RepSt W V S) => z9a S V W R 10 (by omega) hl10 h0)
 rw [hm] at hN
 clear hm h0 hl0
 have t1 : decide ((m : Int) < 0) = false := by simp
 go_enter Tryz.func161, Tryz.ntmps161
 go_wp2_with (go_at_call 104; refine (HT.out _ (HH.out.rep.grow grI)).mono ?_; rintro e' w' ⟨rfl, nx, rfl⟩)
 refine zab (by kernel_rfl) (by kernel_rfl) ?_; (repeat (go_big_quiet_step ( fail ))); refine wpQuiet_nil ?_; rintro _ ⟨nx, rfl⟩
 go_wp2_with fail
 go_ret
 exact ⟨rfl, grI⟩
set_option maxRecDepth 100000 in
set_option maxHeartbeats 1000000 in
theorem znq (S : St) (V : SV) (b : Nat) (rest : Array Value) (e : List Int) (_he : e.length = 6) (w : World) (H : Host w b V S rest) (hS : Small S) (m k : Nat) (hm : S.objs.length = m + 1) (h0 : (S.list 10).length = k + 1) (hx : gt (S.list 10) k ≠ m) :
 Calls Tryz.prog 161 #[.pointer (some ⟨b, 0, none⟩), .agg (cellsOf e)] w fun r w' => r = .returned (errV 20) ∧ Grow w w' := by
 have hN := H.rep.objs.len
 have HH := Lib.hid H
 have hl10 := hS.list 10 (by omega)
 have hSO := hS.objs
 have hme : (zdt e).length = 18 := rfl
 have hl0 := (H.rep.list 10 (by omega)).len
 have hcell := zaf (H).free (H).blk; have hfz := zah (H).free; have hset := zag (H).free (H).blk; have hblk := (H).blk; have hfree := (H).free; have hlt := (H).lt; have hne1 : ¬ b = (w).heap.size := (by omega); have hne2 : ¬ (w).heap.size = b := (by omega)
 clear H hS
 have hmb : m ≤ 1048576 := by omega
 have HT := Lib.hid (fun (W : World) (R : RepSt W V S) => zml S V W R 10 (by omega) hl10 k h0)
 rw [hm] at hN
 clear hm h0 hl0
 have t1 : decide ((m : Int) < 0) = false := by simp
 generalize gt (S.list 10) k = x at *
 have t2 : (x != (m : Int)) = true := by simpa using hx
 clear hx
 go_enter Tryz.func161, Tryz.ntmps161
 go_wp2_with (go_at_call 104; refine (HT.out _ (HH.out.rep.grow grI)).mono ?_; rintro e' w' ⟨rfl, nx, rfl⟩)
 refine zab (by kernel_rfl) (by kernel_rfl) ?_; (repeat (go_big_quiet_step ( fail ))); refine wpQuiet_nil ?_; rintro _ ⟨nx, rfl⟩
 go_wp2_with fail
 go_ret
 exact ⟨rfl, grI⟩
set_option maxRecDepth 100000 in
set_option maxHeartbeats 1000000 in
theorem zl8 (S : St) (V : SV) (b : Nat) (rest : Array Value) (e : List Int) (he : e.length = 6) (w : World) (H : Host w b V S rest) (hS : Small S) (m k : Nat) (hm : S.objs.length = m + 1) (h0 : (S.list 10).length = k + 1) (hx : gt (S.list 10) k = m) (hr : rowAt S.objs m ≠ zdt e) :
 Calls Tryz.prog 161 #[.pointer (some ⟨b, 0, none⟩), .agg (cellsOf e)] w fun r w' => r = .returned (errV 20) ∧ Grow w w' := by
 have hN := H.rep.objs.len
 have HH := Lib.hid H
 have hl10 := hS.list 10 (by omega)
 have hSO := hS.objs
 have hme : (zdt e).length = 18 := rfl
 have hl0 := (H.rep.list 10 (by omega)).len
 have hcell := zaf (H).free (H).blk; have hfz := zah (H).free; have hset := zag (H).free (H).blk; have hblk := (H).blk; have hfree := (H).free; have hlt := (H).lt; have hne1 : ¬ b = (w).heap.size := (by omega); have hne2 : ¬ (w).heap.size = b := (by omega)
 clear H hS
 have hmb : m ≤ 1048576 := by omega
 have HT := Lib.hid (fun (W : World) (R : RepSt W V S) => zml S V W R 10 (by omega) hl10 k h0)
 have hat := HH.out.rep.objs.at (by omega) m (by omega)
 rw [hm] at hN
 rw [hx] at HT
 clear hm h0 hl0 hx
 have t1 : decide ((m : Int) < 0) = false := by simp
 obtain ⟨hb2, hw, hsz, hsub, _⟩ := hat
 have t3 : decide (rowAt S.objs m = zdt e) = false := by simpa using hr
 clear hr
 generalize rowAt S.objs m = r at *
 have b1 : (0 : Int) ≤ (m : Int) := by omega
 have b2 : (m : Int) < (m : Int) + 1 := by omega
 go_enter Tryz.func161, Tryz.ntmps161
 go_wp2_with (go_at_call 104; refine (HT.out _ (HH.out.rep.grow grI)).mono ?_; rintro e' w' ⟨rfl, nx, rfl⟩)
 refine zab (by kernel_rfl) (by kernel_rfl) ?_; (repeat (go_big_quiet_step ( (go_at_call 184; first | refine Calls.grow2 (zg6 e he _) | refine Calls.grow (zg6 e he _)) ))); refine wpQuiet_nil ?_; rintro _ ⟨nx, rfl⟩
 go_wp2_with fail
 go_ret
 exact ⟨rfl, grI⟩
set_option maxRecDepth 100000 in
set_option maxHeartbeats 1000000 in
theorem zpq (S : St) (V : SV) (b : Nat) (rest : Array Value) (e : List Int) (he : e.length = 6) (w : World) (H : Host w b V S rest) (hS : Small S) (m k : Nat) (hm : S.objs.length = m + 1) (h0 : (S.list 10).length = k + 1) (hx : gt (S.list 10) k = m) (hr : rowAt S.objs m = zdt e) :
 Calls Tryz.prog 161 #[.pointer (some ⟨b, 0, none⟩), .agg (cellsOf e)] w fun r w' => r = .returned .nilIface ∧ Done w b V rest { S with objs := S.objs.take m, list := upd S.list 10 ((S.list 10).take k) } w' := by
 have hN := H.rep.objs.len
 have HH := Lib.hid H
 have hl10 := hS.list 10 (by omega)
 have hSO := hS.objs
 have hme : (zdt e).length = 18 := rfl
 have hl0 := (H.rep.list 10 (by omega)).len
 have hcell := zaf (H).free (H).blk; have hfz := zah (H).free; have hset := zag (H).free (H).blk; have hblk := (H).blk; have hfree := (H).free; have hlt := (H).lt; have hne1 : ¬ b = (w).heap.size := (by omega); have hne2 : ¬ (w).heap.size = b := (by omega)
 clear H hS
 have hmb : m ≤ 1048576 := by omega
 have HT := Lib.hid (fun (W : World) (R : RepSt W V S) => zml S V W R 10 (by omega) hl10 k h0)
 have hat := HH.out.rep.objs.at (by omega) m (by omega)
 rw [hm] at hN
 rw [hx] at HT
 rw [h0] at hl0
 have kb : k ≤ 1048576 := by omega
 have HM := Lib.hid hm
 have H0 := Lib.hid h0
 clear hm h0 hx
 have t1 : decide ((m : Int) < 0) = false := by simp
 obtain ⟨hb2, hw, hsz, hsub, _⟩ := hat
 have t3 : decide (rowAt S.objs m = zdt e) = true := by simpa using hr
 clear hr
 generalize rowAt S.objs m = r at *
 have b1 : (0 : Int) ≤ (m : Int) := by omega
 have b2 : (m : Int) < (m : Int) + 1 := by omega
 obtain ⟨ob, oo, oc, hVo⟩ : ∃ ob oo oc, V.objs = .mk ob oo (m + 1) oc := ⟨_, _, _, by rw [← hN]; exact Sl.mk_of _ (by omega)⟩
 obtain ⟨lb, lo, lc, hVl⟩ : ∃ lb lo lc, V.list 10 = .mk lb lo (k + 1) lc := ⟨_, _, _, by rw [← hl0]; exact Sl.mk_of _ (by omega)⟩
 have hvo : V.objs.val = .slice (some ⟨ob, oo, none⟩) ((m + 1 : Nat) : Nat) oc := by rw [hVo]; rfl
 have hvl : (V.list 10).val = .slice (some ⟨lb, lo, none⟩) (k + 1) lc := by rw [hVl]; rfl
 have e1 : (hoA V S.num rest).setIfInBounds 0 (.slice (some ⟨ob, oo, none⟩) m m) = hoA { V with objs := .mk ob oo m m } S.num rest := zo8 V S.num rest (.mk ob oo m m)
 have e2 : (hoA { V with objs := .mk ob oo m m } S.num rest).setIfInBounds 11 (.slice (some ⟨lb, lo, none⟩) k k) = hoA { objs := .mk ob oo m m, list := upd V.list 10 (.mk lb lo k k) } S.num rest := zws _ S.num rest (.mk lb lo k k)
 rw [hVo] at hb2 hsz hsub
 simp only [Sl.b, Sl.o] at hb2 hsz hsub
 have cm : m ≤ oc := by have := HH.out.rep.objs.cap; rw [hVo] at this; simp only [Sl.n, Sl.c] at this; omega
 have ck : k ≤ lc := by have := (HH.out.rep.list 10 (by omega)).cap; rw [hVl] at this; simp only [Sl.n, Sl.c] at this; omega
 have HVo := Lib.hid hVo
 have HVl := Lib.hid hVl
 clear hVo hVl
 go_enter Tryz.func161, Tryz.ntmps161
 go_wp2_with (go_at_call 104; refine (HT.out _ (HH.out.rep.grow grI)).mono ?_; rintro e' w' ⟨rfl, nx, rfl⟩)
 refine zab (by kernel_rfl) (by kernel_rfl) ?_; (repeat (go_big_quiet_step ( (go_at_call 184; first | refine Calls.grow2 (zg6 e he _) | refine Calls.grow (zg6 e he _)) ))); refine wpQuiet_nil ?_; rintro _ ⟨nx, rfl⟩
 go_wp2_with fail
 go_region
 all_goals
  go_wp2_with fail
  go_ret
  refine ⟨rfl, ⟨.mk ob oo m m, upd V.list 10 (.mk lb lo k k)⟩, Put.of_grow grI, ?_, ?_⟩
  · refine ⟨?_, fun z hz => ?_⟩
    · have h1 := HH.out.rep.objs
      rw [HVo.out] at h1
      refine (((h1.cut m m (by rw [HM.out]; omega) (Nat.le_refl _)).off (Off.setRow w b (hoA { objs := .mk ob oo m m, list := upd V.list 10 (.mk lb lo k k) } S.num rest)) (fun _ h => HH.out.apart (Or.inl (by rw [HVo.out]; exact h.symm)))).grow grI)
    · show Ints _ (upd V.list 10 (.mk lb lo k k) z) (upd S.list 10 ((S.list 10).take k) z)
      by_cases hz10 : z = 10
      · subst hz10
        rw [zbo, zbo]
        have h1 := HH.out.rep.list 10 (by omega)
        rw [HVl.out] at h1
        exact (((h1.cut k k (by rw [H0.out]; omega) (Nat.le_refl _)).off (Off.setRow w b (hoA { objs := .mk ob oo m m, list := upd V.list 10 (.mk lb lo k k) } S.num rest)) (fun _ h => HH.out.apart (Or.inr ⟨10, by omega, by rw [HVl.out]; exact h.symm⟩))).grow grI)
      · rw [zco _ _ _ _ hz10, zco _ _ _ _ hz10]
        exact (((HH.out.rep.list z hz).off (Off.setRow w b (hoA { objs := .mk ob oo m m, list := upd V.list 10 (.mk lb lo k k) } S.num rest)) (fun hl h => HH.out.apart (Or.inr ⟨z, hz, by rw [← h]; exact zbs (HH.out.rep.list z hz) hl⟩))).grow grI)
  · rintro j (hj | ⟨z, hz, hj⟩)
    · exact Or.inl (Or.inl (by rw [HVo.out]; exact hj))
    · have hj : (upd V.list 10 (.mk lb lo k k) z).owns j := hj
      by_cases hz10 : z = 10
      · subst hz10
        rw [zbo] at hj
        exact Or.inl (Or.inr ⟨10, hz, by rw [HVl.out]; exact hj⟩)
      · rw [zco _ _ _ _ hz10] at hj
        exact Or.inl (Or.inr ⟨z, hz, hj⟩)
end Go.Proofs.YthfalocligkamaaGreatDoor
namespace Go.Proofs.YthfalocligkamaaGreatDoor
open Go Go.RowKit
attribute [local go_sem ↓] Go.wp_at_zero Go.wp_at_succ
structure MoveEv (e : List Int) (a bz c dz ei : Nat) : Prop where
 len : e.length = 6
 a : gt e 1 = a
 b : gt e 2 = bz
 c : gt e 3 = c
 d : gt e 4 = dz
 e : gt e 5 = ei
 hb : bz < 11
 hd : dz < 11
set_option maxRecDepth 100000 in
set_option maxHeartbeats 2000000 in
theorem z2n (S : St) (V : SV) (b : Nat) (rest : Array Value) (e : List Int) (a bz c dz ei : Nat) (E : MoveEv e a bz c dz ei) (w : World) (H : Host w b V S rest) (hS : Small S) (hA : S.objs.length ≤ a) :
 Calls Tryz.prog 162 #[.pointer (some ⟨b, 0, none⟩), .agg (cellsOf e)] w fun r w' => r = .returned (errV 4) ∧ Grow w w' := by
 have hN := H.rep.objs.len
 have HH := Lib.hid H
 obtain ⟨he, q1, q2, q3, q4, q5, hb', hd'⟩ := E
 have hlb := hS.list bz hb'
 have hSO := hS.objs
 have hlB := (H.rep.list bz hb').len
 have hbI : (bz : Int) < 11 := by omega
 have hbJ : (0 : Int) ≤ (bz : Int) := by omega
 have hcell := zaf (H).free (H).blk; have hfz := zah (H).free; have hset := zag (H).free (H).blk; have hblk := (H).blk; have hfree := (H).free; have hlt := (H).lt; have hne1 : ¬ b = (w).heap.size := (by omega); have hne2 : ¬ (w).heap.size = b := (by omega)
 clear H hS
 have hlen : ((S.objs.length : Int) ≤ (a : Int)) := by omega
 go_enter Tryz.func162, Tryz.ntmps162
 go_wp2_with fail
 refine zab (by kernel_rfl) (by kernel_rfl) ?_; (repeat (go_big_quiet_step ( fail ))); refine wpQuiet_nil ?_; rintro _ ⟨nx, rfl⟩
 go_wp2_with fail
 go_ret
 exact ⟨rfl, grI⟩
set_option maxRecDepth 100000 in
set_option maxHeartbeats 2000000 in
theorem z2o (S : St) (V : SV) (b : Nat) (rest : Array Value) (e : List Int) (a bz c dz ei : Nat) (E : MoveEv e a bz c dz ei) (w : World) (H : Host w b V S rest) (hS : Small S) (hA : a < S.objs.length) (hC : (S.list bz).length ≤ c) :
 Calls Tryz.prog 162 #[.pointer (some ⟨b, 0, none⟩), .agg (cellsOf e)] w fun r w' => r = .returned (errV 20) ∧ Grow w w' := by
 have hN := H.rep.objs.len
 have HH := Lib.hid H
 obtain ⟨he, q1, q2, q3, q4, q5, hb', hd'⟩ := E
 have hlb := hS.list bz hb'
 have hSO := hS.objs
 have hlB := (H.rep.list bz hb').len
 have hbI : (bz : Int) < 11 := by omega
 have hbJ : (0 : Int) ≤ (bz : Int) := by omega
 have hcell := zaf (H).free (H).blk; have hfz := zah (H).free; have hset := zag (H).free (H).blk; have hblk := (H).blk; have hfree := (H).free; have hlt := (H).lt; have hne1 : ¬ b = (w).heap.size := (by omega); have hne2 : ¬ (w).heap.size = b := (by omega)
 clear H hS
 have hin : inR (c : Int) (V.list bz).n = false := by simp [inR]; omega
 have hlen : ¬ ((S.objs.length : Int) ≤ (a : Int)) := by omega
 go_enter Tryz.func162, Tryz.ntmps162
 go_wp2_with fail
 refine zab (by kernel_rfl) (by kernel_rfl) ?_; (repeat (go_big_quiet_step ( fail ))); refine wpQuiet_nil ?_; rintro _ ⟨nx, rfl⟩
 go_wp2_with fail
 go_region_with (go_at_call 185; refine (zxk _ _ _ hin).mono ?_; rintro e' w' ⟨rfl, hww⟩; subst w')
 all_goals
  go_wp2_with fail
  go_ret
  exact ⟨rfl, grI⟩
set_option maxRecDepth 100000 in
set_option maxHeartbeats 2000000 in
theorem zs0 (S : St) (V : SV) (b : Nat) (rest : Array Value) (e : List Int) (a bz c dz ei : Nat) (E : MoveEv e a bz c dz ei) (w : World) (H : Host w b V S rest) (hS : Small S) (hA : a < S.objs.length) (hC : c < (S.list bz).length) (hx : gt (S.list bz) c ≠ a) :
 Calls Tryz.prog 162 #[.pointer (some ⟨b, 0, none⟩), .agg (cellsOf e)] w fun r w' => r = .returned (errV 20) ∧ Grow w w' := by
 have hN := H.rep.objs.len
 have HH := Lib.hid H
 obtain ⟨he, q1, q2, q3, q4, q5, hb', hd'⟩ := E
 have hlb := hS.list bz hb'
 have hSO := hS.objs
 have hlB := (H.rep.list bz hb').len
 have hbI : (bz : Int) < 11 := by omega
 have hbJ : (0 : Int) ≤ (bz : Int) := by omega
 have hcell := zaf (H).free (H).blk; have hfz := zah (H).free; have hset := zag (H).free (H).blk; have hblk := (H).blk; have hfree := (H).free; have hlt := (H).lt; have hne1 : ¬ b = (w).heap.size := (by omega); have hne2 : ¬ (w).heap.size = b := (by omega)
 clear H hS
 have hlen : ¬ ((S.objs.length : Int) ≤ (a : Int)) := by omega
 have t2 : (gt (S.list bz) c != (a : Int)) = true := by simpa using hx
 clear hx
 go_enter Tryz.func162, Tryz.ntmps162
 go_wp2_with fail
 refine zab (by kernel_rfl) (by kernel_rfl) ?_; (repeat (go_big_quiet_step ( fail ))); refine wpQuiet_nil ?_; rintro _ ⟨nx, rfl⟩
 go_wp2_with fail
 go_region_with (go_at_call 185; refine (zf2 _ (V.list bz) (S.list bz) c ((HH.out.rep.list bz hb').grow grI) hC hlb).mono ?_; rintro e' w' ⟨s1, rfl, hI1, hf1, n1, rfl⟩)
 all_goals
  go_wp2_with fail
  go_ret
  exact ⟨rfl, grI⟩
end Go.Proofs.YthfalocligkamaaGreatDoor
