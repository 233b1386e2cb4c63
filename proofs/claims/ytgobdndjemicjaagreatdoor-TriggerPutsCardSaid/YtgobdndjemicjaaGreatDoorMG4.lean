/- The document's shapes: cards of objects, creatures, statics. -/
import Derived.Test.YtgobdndjemicjaaGreatDoorMRef08
import Derived.Test.YtgobdndjemicjaaGreatDoorMEval
import Derived.Test.YtgobdndjemicjaaGreatDoorMF1
import Derived.Test.YtgobdndjemicjaaGreatDoorMPutN
import Derived.Test.YtgobdndjemicjaaGreatDoorMChk
import Derived.Test.YtgobdndjemicjaaGreatDoorMEm9
import Derived.Deep.DeepCutAuto
namespace Go.Proofs.YtgobdndjemicjaaGreatDoor
open Go Go.RowKit
def zem : Prop := ∀ (w : World) (n : Nat), n < 120 → Calls Tryz.prog 39 #[.int .i64 (n : Int)] w fun r w' => zdg w w' r (cardF n)
structure S6 where
 src : Int
 ef : EfV
def S6.arr (a : S6) : Array Value := #[I a.src, I a.ef.op, I a.ef.n, I a.ef.m, I a.ef.who, a.ef.subs.val]
@[go_sem] theorem S6.size (a : S6) : a.arr.size = 6 := rfl
@[go_sem] theorem S6.one (a : S6) : zal a.arr = true := by
 have h := val_oneCell a.ef.subs
 simp only [zal, S6.arr, List.all_toArray, List.all_cons, List.all_nil, h, Bool.and_true]
 rfl
@[go_sem] theorem S6.all (a : S6) : sub a.arr 0 6 = a.arr := rfl
@[go_sem] theorem S6.get0 (c : S6) : c.arr[0]? = some (I c.src) := rfl
@[go_sem] theorem S6.get0' (c : S6) (h : 0 < c.arr.size) : c.arr[0]'h = I c.src := rfl
@[go_sem] theorem S6.get2 (c : S6) : c.arr[2]? = some (I c.ef.n) := rfl
@[go_sem] theorem S6.get2' (c : S6) (h : 2 < c.arr.size) : c.arr[2]'h = I c.ef.n := rfl
@[go_sem] theorem S6.get5 (c : S6) : c.arr[5]? = some c.ef.subs.val := rfl
@[go_sem] theorem S6.get5' (c : S6) (h : 5 < c.arr.size) : c.arr[5]'h = c.ef.subs.val := rfl
@[go_sem ↓] theorem z3f (ρ : Operand → Value) (dst : Option Tmp) (x : Operand) (ty : TypeId) (pos : String) (after : Array Edge) (guard : Option (Nat × Bool)) :
 execOp ρ { dst, op := .load 231 x, type := ty, pos, after, guard } = za8 231 (ρ x) := rfl
@[go_sem ↓] theorem z06 (ρ : Operand → Value) (dst : Option Tmp) (x y : Operand) (ty : TypeId) (pos : String) (after : Array Edge) (guard : Option (Nat × Bool)) :
 execOp ρ { dst, op := .store 231 x y, type := ty, pos, after, guard } = zas 231 (ρ x) (ρ y) := rfl
@[go_sem] theorem zuw (w : World) (b o : Nat) (h : o + 6 ≤ (w.blk b).size) : (za8 231 (.pointer (some ⟨b, o, none⟩))).run Tryz.prog w = .ok (.value (.agg (sub (w.blk b) o 6))) w :=
 zaw w b o 231 6 (by kernel_rfl) (by kernel_rfl) h (by omega)
@[go_sem] theorem zr7 (w : World) (b : Nat) (cs : Array Value) (h : (w.blk b).size = 6) (hc : cs.size = 6) (h1 : zal cs = true) (hf : w.free b = true) : (zas 231 (.pointer (some ⟨b, 0, none⟩)) (.agg cs)).run Tryz.prog w = .ok .skip (w.setRow b cs) :=
 zax w b 231 6 _ (by kernel_rfl) h hc (by omega) hf h1
@[go_sem ↓] theorem z0b (ρ : Operand → Value) (dst : Option Tmp) (parts : Array (Nat × Operand)) (ty : TypeId) (pos : String) (after : Array Edge) (guard : Option (Nat × Bool)) :
 execOp ρ { dst, op := .build 231 parts, type := ty, pos, after, guard } = za2 231 (parts.map fun (i, x) => (i, ρ x)) := rfl
@[go_sem] theorem z0d (t : TypeId) (fr : Nat × Nat) : Obj.cells #[Value.int .i64 0, Value.int .i64 0, Value.int .i64 0, Value.int .i64 0, Value.int .i64 0, .slice none 0 0] t fr = .cells (S6.arr ⟨0, ⟨0, 0, 0, 0, .nil⟩⟩) t fr := rfl
@[go_sem] theorem zr6 (w : World) (a : Int) (e : EfV) : (za2 231 #[(0, .int .i64 a), (1, .agg e.arr)]).run Tryz.prog w = .ok (.value (.agg (S6.arr ⟨a, e⟩))) w := by
 obtain ⟨op, n, m, who, s⟩ := e; cases s <;> kernel_rfl
def StIs (w : World) (n : Nat) (x : S6) (t : StN) : Prop := x.src = t.src ∧ x.ef.n = t.grp ∧ n ≤ x.ef.subs.b ∧ ∃ who s, RowsV w x.ef.subs 5 [EfV.arr ⟨t.op, t.n, t.m, who, s⟩]
theorem StIs.grow {w w' : World} {n : Nat} {x : S6} {t : StN} (h : StIs w n x t) (g : Grow w w') : StIs w' n x t := by
 obtain ⟨h1, h2, h3, who, s, h4⟩ := h
 exact ⟨h1, h2, h3, who, s, h4.grow g⟩
inductive StsIs (w : World) (n : Nat) : List S6 → List StN → Prop
 | nil : StsIs w n [] []
 | snoc {l : List S6} {m : List StN} {x : S6} {t : StN} : StsIs w n l m → StIs w n x t → StsIs w n (l ++ [x]) (m ++ [t])
theorem StsIs.grow {w w' : World} {n : Nat} {l : List S6} {m : List StN} (h : StsIs w n l m) (g : Grow w w') : StsIs w' n l m := by
 induction h with
 | nil => exact .nil
 | snoc _ h ih => exact .snoc ih (h.grow g)
theorem StIs.kept {own : Nat → Prop} {w w' : World} {n : Nat} {x : S6} {t : StN} (h : StIs w n x t) (g : Kept own w w') (ho : ∀ b, n ≤ b → b < w.heap.size → ¬ own b) : StIs w' n x t := by
 obtain ⟨h1, h2, h3, who, s, h4⟩ := h
 have hb := (h4.at (by decide) (i := 0) (x := _) rfl).1
 exact ⟨h1, h2, h3, who, s, h4.kept g (ho _ h3 hb)⟩
theorem AbOk.kept {own : Nat → Prop} {w w' : World} {n : Nat} {a : AbV} {d : AbN} (h : AbOk w n a d) (g : Kept own w w') (ho : ∀ b, n ≤ b → b < w.heap.size → ¬ own b) : AbOk w' n a d := by
 refine ⟨h.1, fun h5 => ?_⟩
 obtain ⟨h1, h2, who, s, R⟩ := h.2 h5
 have hb := (R.at (by decide) (i := 0) (x := _) rfl).1
 exact ⟨h1, h2, who, s, R.kept g (ho _ h2 hb)⟩
theorem AbsOk.kept {own : Nat → Prop} {w w' : World} {n : Nat} {l : List AbV} {m : List AbN} (h : AbsOk w n l m) (g : Kept own w w') (ho : ∀ b, n ≤ b → b < w.heap.size → ¬ own b) : AbsOk w' n l m := by
 induction h with
 | nil => exact .nil
 | cons h _ ih => exact .cons (h.kept g ho) ih
theorem CardOk.kept {own : Nat → Prop} {w w' : World} {n : Nat} {c : CdV} {d : CardN} (h : CardOk w n c d) (g : Kept own w w') (ho : ∀ b, n ≤ b → b < w.heap.size → ¬ own b) : CardOk w' n c d := by
 obtain ⟨l, h1, h2, h3⟩ := h.abs
 refine ⟨h.kind, h.pw, h.tf, h.says, l, ?_, h2, h3.kept g ho⟩
 cases l with
 | nil => exact ⟨h1.len, h1.cap, fun x hx => by simp at hx, fun i j x hx => by simp at hx⟩
 | cons a l =>
   have hb := (h1.at (by decide) (i := 0) (x := a.arr) rfl).1
   rcases h2 with h2 | h2
   · cases h2
   · exact h1.kept g (ho _ h2 hb)
theorem StsIs.kept {own : Nat → Prop} {w w' : World} {n : Nat} {l : List S6} {m : List StN} (h : StsIs w n l m) (g : Kept own w w') (ho : ∀ x ∈ l, ¬ own x.ef.subs.b) : StsIs w' n l m := by
 induction h with
 | nil => exact .nil
 | snoc _ h ih =>
   refine .snoc (ih (fun x hx => ho x (by simp [hx]))) ?_
   obtain ⟨h1, h2, h3, who, s, h4⟩ := h
   exact ⟨h1, h2, h3, who, s, h4.kept g (ho _ (by simp))⟩
theorem StsIs.lt {w : World} {n : Nat} {l : List S6} {m : List StN} (h : StsIs w n l m) : ∀ x ∈ l, x.ef.subs.b < w.heap.size := by
 induction h with
 | nil => intro x hx; cases hx
 | snoc _ h ih =>
   intro x hx
   rcases List.mem_append.1 hx with hx | hx
   · exact ih x hx
   · obtain ⟨_, _, _, who, s, h4⟩ := h
     obtain rfl : x = _ := by simpa using hx
     exact (h4.at (by decide) (i := 0) (x := _) rfl).1
@[go_sem] theorem AbV.sub9 (a : AbV) : sub a.arr 9 5 = a.ef.arr := rfl
@[go_sem ↓] theorem zvo (ρ : Operand → Value) (dst : Option Tmp) (n : Nat) (parts : Array (Nat × Operand)) (ty : TypeId) (pos : String) (after : Array Edge) (guard : Option (Nat × Bool)) :
 execOp ρ { dst, op := .buildSlice 228 n parts, type := ty, pos, after, guard } = zc7 228 n (parts.map fun (i, x) => (i, ρ x)) := rfl
@[go_sem] theorem zyd (w : World) (a : S6) : (zc7 228 1 #[(0, .agg a.arr)]).run Tryz.prog w = .ok (.value (.slice (some ⟨w.heap.size, 0, none⟩) 1 1)) (w.alloc (.cells a.arr 231)) := by
 obtain ⟨i, op, n, m, who, s⟩ := a; cases s <;> kernel_rfl
@[go_sem] theorem zum (w : World) : (zc7 228 0 #[]).run Tryz.prog w = .ok (.value (.slice (some ⟨w.heap.size, 0, none⟩) 0 0)) (w.alloc (.cells #[] 231)) := by kernel_rfl
@[go_sem] theorem z7u (w : World) (c : CdV) : (Instr.field 44 (.agg c.arr) 7).run Tryz.prog w = .ok c.abs.val w := by
 obtain ⟨a, b, f, c0, c1, c2, c3, c4, c5, p, t, s, l⟩ := c; cases l <;> kernel_rfl
end Go.Proofs.YtgobdndjemicjaaGreatDoor
namespace Go.Proofs.YtgobdndjemicjaaGreatDoor
open Go Go.RowKit Go.Shelf
@[go_sem] theorem z0o (w : World) : (za2 77 #[]).run Tryz.prog w = .ok (.value (.agg (cellsOf [0, 0, 0, 0, 0, 0, 0, 0, 0, 0, 0, 0, 0, 0, 0, 0, 0, 0]))) w := by kernel_rfl
def bitB (n : Int) (p : Nat) : Bool := n.toNat / 2 ^ p % 2 == 1
theorem zg3 (z : Nat) (hz : z < 11) (w : World) : Calls Tryz.prog 145 #[.int .i64 (z : Int)] w fun e w' => e = .returned (.int .i64 (zav z)) ∧ w' = w := by
 have h : z = 0 ∨ z = 1 ∨ z = 2 ∨ z = 3 ∨ z = 4 ∨ z = 5 ∨ z = 6 ∨ z = 7 ∨ z = 8 ∨ z = 9 ∨ z = 10 := by omega
 rcases h with rfl | rfl | rfl | rfl | rfl | rfl | rfl | rfl | rfl | rfl | rfl
 all_goals
  go_enter Tryz.func145, Tryz.ntmps145
  go_wp2_with fail
  go_ret
  exact ⟨by rfl, rfl⟩
set_option maxRecDepth 100000 in
set_option maxHeartbeats 2000000 in
theorem zqa (n : Int) (h0 : 0 ≤ n) (h3 : n ≤ 3) (p : Nat) (hp : p < 2) (w : World) :
 Calls Tryz.prog 260 #[.agg (cellsOf [0, 0, 0, 0, 0, 0, 0, 0, 0, 0, 0, 0, 0, 0, 0, 0, 0, n]), .int .i64 (p : Int)] w fun e w' => e = .returned (.bool (bitB n p)) ∧ Grow w w' := by
 have h : n = 0 ∨ n = 1 ∨ n = 2 ∨ n = 3 := by omega
 have h2 : p = 0 ∨ p = 1 := by omega
 rcases h2 with rfl | rfl <;> rcases h with rfl | rfl | rfl | rfl
 all_goals
  go_enter Tryz.func260, Tryz.ntmps260
  go_wp2_with fail
  go_ret
  exact ⟨by rfl, grI⟩
set_option maxRecDepth 100000 in
set_option maxHeartbeats 2000000 in
theorem zwo (n : Int) (h0 : 0 ≤ n) (h3 : n ≤ 3) (p : Nat) (hp : p < 2) (w : World) :
 Calls Tryz.prog 239 #[.int .i64 n, .int .i64 (p : Int)] w fun e w' => e = .returned (.bool (bitB n p)) ∧ Grow w w' := by
 have HK := Lib.hid (fun W => zqa n h0 h3 p hp W)
 have hs : [0, 0, 0, 0, 0, 0, 0, 0, 0, 0, 0, 0, 0, 0, 0, 0, 0, 0].set 17 n = [0, 0, 0, 0, 0, 0, 0, 0, 0, 0, 0, 0, 0, 0, 0, 0, 0, n] := rfl
 generalize bitB n p = r at *
 clear h0 h3 hp
 go_enter Tryz.func239, Tryz.ntmps239
 go_wp2_with (go_at_call 260; refine (HK.out _).mono ?_; rintro e' w' ⟨rfl, nx, rfl⟩)
 go_ret
 exact ⟨rfl, grI⟩
def nowTo (was pl : Int) : Nat → Int
 | 0 => was
 | k + 1 => if bitB pl k = true ∧ bitB (nowTo was pl k) k = false then nowTo was pl k + (k + 1) else nowTo was pl k
theorem z3o (was pl : Int) (h0 : 0 ≤ was) (h3 : was ≤ 3) (p0 : 0 ≤ pl) (p3 : pl ≤ 3) : ∀ k : Nat, k ≤ 2 → 0 ≤ nowTo was pl k ∧ nowTo was pl k ≤ 3 := by
 have h : was = 0 ∨ was = 1 ∨ was = 2 ∨ was = 3 := by omega
 have h2 : pl = 0 ∨ pl = 1 ∨ pl = 2 ∨ pl = 3 := by omega
 intro k hk
 have h4 : k = 0 ∨ k = 1 ∨ k = 2 := by omega
 rcases h with rfl | rfl | rfl | rfl <;> rcases h2 with rfl | rfl | rfl | rfl <;> rcases h4 with rfl | rfl | rfl <;> decide
theorem zt0 (was pl : Int) (h0 : 0 ≤ was) (h3 : was ≤ 3) (p0 : 0 ≤ pl) (p3 : pl ≤ 3) : nowTo was pl 2 = zdp was pl := by
 have h : was = 0 ∨ was = 1 ∨ was = 2 ∨ was = 3 := by omega
 have h2 : pl = 0 ∨ pl = 1 ∨ pl = 2 ∨ pl = 3 := by omega
 rcases h with rfl | rfl | rfl | rfl <;> rcases h2 with rfl | rfl | rfl | rfl <;> decide
end Go.Proofs.YtgobdndjemicjaaGreatDoor
namespace Go.Proofs.YtgobdndjemicjaaGreatDoor
open Go Go.RowKit Go.Shelf
@[go_sem] theorem zyk (w : World) (a u v : Int) : (za2 122 #[(0, .int .i64 2), (1, .int .i64 a), (2, .int .i64 17), (3, .int .i64 u), (4, .int .i64 v)]).run Tryz.prog w = .ok (.value (.agg (cellsOf [2, a, 17, u, v, 0]))) w := by kernel_rfl
set_option maxRecDepth 100000 in
set_option maxHeartbeats 4000000 in
theorem znp (S : St) (V : SV) (w : World) (R : RepSt w V S) (a : Nat) (ha : a < S.objs.length) (h0 : 0 ≤ gt (rowAt S.objs a) 17) (h3 : gt (rowAt S.objs a) 17 ≤ 3) (pl : Int) (p0 : 0 ≤ pl) (p3 : pl ≤ 3) :
 Calls Tryz.prog 191 #[.agg (stA V S.num), .int .i64 (a : Int), .int .i64 pl, .bool true] w fun e w' => ∃ s : Sl, e = .returned s.val ∧ Rows' w' s 6 (showEv S a pl) ∧ (∀ b, s.owns b → w.heap.size ≤ b ∧ b < w'.heap.size) ∧ Grow w w' := by
 have hoc := R.objs.cell a 17 ha (by omega)
 have hN := R.objs.len
 have hob := (zaz hoc).1
 have ha1 : (a : Int) < (S.objs.length : Int) := by omega
 have ha0 : (0 : Int) ≤ (a : Int) := by omega
 have ha2 : (S.objs.length ≤ a) = False := by simp; omega
 have ha3 : ((S.objs.length : Int) ≤ (a : Int)) = False := by simp; omega
 have hSE : Hid (showEv S a pl = if zdp (gt (rowAt S.objs a) 17) pl = gt (rowAt S.objs a) 17 then [] else [[2, (a : Int), 17, gt (rowAt S.objs a) 17, zdp (gt (rowAt S.objs a) 17) pl, 0]]) := by
  rw [Hid]; unfold showEv
  rw [if_neg (by omega), Int.toNat_natCast]
 generalize gt (rowAt S.objs a) 17 = was at *
 have HIn := Lib.hid (z3o was pl h0 h3 p0 p3)
 have HB2 := Lib.hid (fun W n (n0 : 0 ≤ n) (n3 : n ≤ 3) (k : Nat) (hk : k < 2) => zwo n n0 n3 k hk W)
 have hsh := zt0 was pl h0 h3 p0 p3
 rw [← hsh] at hSE
 clear h0 h3 hsh R
 go_enter Tryz.func191, Tryz.ntmps191
 go_wp2_with fail
 go_loopw [10, 11] (fun v i wr => ∃ k : Nat, k ≤ 2 ∧ v = I (nowTo was pl k) ∧ i = .int .i64 k ∧ Grow (w.alloc (.cells (stA V S.num) 29)) wr) (fun _ i _ => 2 - (intOf i).toNat)
 case atStart => exact ⟨0, by omega, rfl, rfl, grI⟩
 case round =>
  obtain ⟨k, hk, rfl, rfl, hG⟩ := hrel
  obtain ⟨x, rfl⟩ := hG
  by_cases hlt : k < 2
  · have hk2 : (k : Int) < 2 := by omega
    have hN2 : Hid (nowTo was pl (k + 1) = if bitB pl k = true ∧ bitB (nowTo was pl k) k = false then nowTo was pl k + (k + 1) else nowTo was pl k) := rfl
    obtain ⟨n0, n3⟩ := HIn.out k (by omega)
    have HBk := Lib.hid (fun W n (n0 : 0 ≤ n) (n3 : n ≤ 3) => HB2.out W n n0 n3 k hlt)
    have hw1 : IntKind.i64.wrap ((k : Int) + 1) = (k : Int) + 1 := IntWalk.i64_in _ (by omega)
    have hw2 : IntKind.i64.wrap (nowTo was pl k + ((k : Int) + 1)) = nowTo was pl k + ((k : Int) + 1) := IntWalk.i64_in _ (by omega)
    generalize nowTo was pl k = now at *
    cases hb1 : bitB pl k with
    | false =>
      rw [hb1] at hN2
      have hN3 : Hid (nowTo was pl (k + 1) = now) := by rw [Hid, hN2.out]; simp
      clear hN2 HB2
      go_wp2_with (go_at_call 239; refine (HBk.out _ _ (by assumption) (by assumption)).mono ?_; rintro e' w' ⟨rfl, nx, rfl⟩)
      go_roundw
      case rel => exact ⟨k + 1, by omega, by rw [hN3.out], by go_num, grI⟩
      case measure => simp [intOf]; omega
    | true =>
      rw [hb1] at hN2
      cases hb2 : bitB now k with
      | true =>
        rw [hb2] at hN2
        have hN3 : Hid (nowTo was pl (k + 1) = now) := by rw [Hid, hN2.out]; simp
        clear hN2 HB2
        go_wp2_with (go_at_call 239; refine (HBk.out _ _ (by assumption) (by assumption)).mono ?_; rintro e' w' ⟨rfl, nx, rfl⟩)
        go_roundw
        case rel => exact ⟨k + 1, by omega, by rw [hN3.out], by go_num, grI⟩
        case measure => simp [intOf]; omega
      | false =>
        rw [hb2] at hN2
        have hN3 : Hid (nowTo was pl (k + 1) = now + ((k : Int) + 1)) := by rw [Hid, hN2.out]; simp
        clear hN2 HB2
        go_wp2_with (go_at_call 239; refine (HBk.out _ _ (by assumption) (by assumption)).mono ?_; rintro e' w' ⟨rfl, nx, rfl⟩)
        go_roundw
        case rel => exact ⟨k + 1, by omega, by rw [hN3.out], by go_num, grI⟩
        case measure => simp [intOf]; omega
  · obtain rfl : k = 2 := by omega
    generalize nowTo was pl 2 = now at *
    by_cases hx : now = was
    · have hxb : (now == was) = true := by simpa using hx
      rw [if_pos hx] at hSE
      clear hx
      go_wp2_with fail
      go_ret
      exact ⟨.nil, rfl, by rw [hSE.out]; exact Rows'.nil _ _, fun b hb => hb.elim, grI⟩
    · have hxb : (now == was) = false := by simpa using hx
      rw [if_neg hx] at hSE
      clear hx
      go_wp2_with fail
      go_ret
      refine ⟨.mk (w.heap.size + 1 + x.objs.size) 0 1 1, rfl, ?_, fun b hb => ?_, grI⟩
      · rw [hSE.out]
        exact (zdc _ _ 6 _ rfl (by go_simp)).rows (by omega) (zk3 (fun r hr => by rw [List.mem_singleton] at hr; subst hr; rfl))
      · have hb : b = w.heap.size + 1 + x.objs.size := hb
        subst hb
        simp only [zab, zaa]
        exact ⟨by omega, by omega⟩
end Go.Proofs.YtgobdndjemicjaaGreatDoor
namespace Go.Proofs.YtgobdndjemicjaaGreatDoor
open Go Go.RowKit Go.Shelf
theorem z1t (E : Em) (l : List (List Int)) (k : Nat) (h : k < l.length) : E.dos (l.take (k + 1)) = (E.dos (l.take k)).do1 (rowAt l k) := by
 have : l.take (k + 1) = l.take k ++ [rowAt l k] := by
  rw [List.take_succ_eq_append_getElem h]
  simp [rowAt, h]
 unfold Em.dos
 rw [this, List.foldl_append]; rfl
theorem zq0 (S : St) (id p : Int) : ∀ i, i < (showEv S id p).length → gt (rowAt (showEv S id p) i) 0 = 2 := by
 intro i hi
 unfold showEv at hi ⊢
 split at hi
 · simp at hi
 · split at hi
   · simp at hi
   · rename_i h1 h2
     rw [if_neg h1, if_neg h2]
     have : i = 0 := by simpa using hi
     subst this
     rfl
set_option maxRecDepth 100000 in
set_option maxHeartbeats 4000000 in
theorem zxc (w : World) (b : Nat) (own : Nat → Prop) (E : Em) (R : Gmt w b own E) (hS : Small E.now) (he : E.err = 0) (hev : E.evs.length < 65536) (a : Nat) (ha : a < E.now.objs.length) (h0 : 0 ≤ gt (rowAt E.now.objs a) 17) (h3 : gt (rowAt E.now.objs a) 17 ≤ 3) (pl : Int) (p0 : 0 ≤ pl) (p3 : pl ≤ 3) :
 Calls Tryz.prog 142 #[.pointer (some ⟨b, 0, none⟩), .int .i64 (a : Int), .int .i64 pl] w fun r w' => r = .returned (.tuple #[]) ∧ DPost w b own (E.show a pl) w' := by
 have HR0 := Lib.hid R
 have hlt0 := R.lt
 have hone := zg2 E.now a pl
 have HKi := Lib.hid (zq0 E.now a pl)
 have HTk := Lib.hid (z1t E (showEv E.now a pl))
 have hsh : E.show a pl = E.dos ((showEv E.now a pl).take (showEv E.now a pl).length) := by unfold Em.show; rw [if_neg (by rw [he]; simp), List.take_length]
 obtain ⟨V, sd, se, sp, hr, ho⟩ := R
 have HCh := Lib.hid (fun W (g : Grow w W) => znp E.now V W (hr.host.rep.grow g) a ha h0 h3 pl p0 p3)
 have hH := hr.host
 have hcell := zae (hH).free (hH).blk; have hfz := zag (hH).free; have hset := zah (hH).free (hH).blk; have hblk := (hH).blk; have hfree := (hH).free; have hlt := (hH).lt; have hne1 : ¬ b = (w).heap.size := (by omega); have hne2 : ¬ (w).heap.size = b := (by omega)
 have HL := Lib.hid hlt0
 have HS := Lib.hid hS
 rw [hsh]
 clear hr ho hH hsh hlt0 ha h0 h3 p0 p3 hS
 generalize showEv E.now a pl = l at *
 go_enter Tryz.func142, Tryz.ntmps142
 go_wp2_with (go_at_call 191; refine (HCh.out _ grI).mono ?_; rintro e' w' ⟨s, rfl, hRl, hos, nx, rfl⟩; (try simp only [zad] at hRl); (try simp only [zac] at hRl); have HRl := Lib.hid hRl; have HOS := Lib.hid (fun k hk => (hos k hk).1); have hsn := hRl.len; clear hRl hos)
 have hG : Grow w (w.plus nx) := grI
 have hRl := HRl.out
 have hos : ∀ k, s.owns k → ¬ own k := fun k hk hk2 => by
  have h1 := HOS.out k hk
  have h2 := HL.out k hk2
  (try simp only [zab] at h1); omega
 have hem : Gmt (w.plus nx) b own E := HR0.out.grow hG
 clear HRl HOS hfree hfz hset hcell hblk
 generalize w.plus nx = W1 at *
 have HRl := Lib.hid hRl
 have HOS := Lib.hid hos
 have HEM := Lib.hid hem
 have HG := Lib.hid hG
 clear hRl hos hem hG
 go_loopw [16] (fun i wr => ∃ (k : Nat) (ownk : Nat → Prop), k ≤ l.length ∧ i = .int .i64 k ∧ TurnG W1 b own (E.dos (l.take k)) wr ownk) (fun i _ => l.length - (intOf i).toNat)
 case atStart => exact ⟨0, own, by omega, rfl, TurnG.first HEM.out⟩
 case round =>
  obtain ⟨k, ownk, hk, rfl, hTu⟩ := hrel
  have HTu := Lib.hid hTu
  by_cases hlt : k < l.length
  · obtain ⟨qb, qw, qsz, qsub, _⟩ := (HRl.out.kept hTu.kept (fun hl => HOS.out _ (zar HRl.out hl))).at (by omega) k hlt
    obtain rfl : k = 0 := by omega
    simp only [Nat.zero_mul, Nat.add_zero] at qsz qsub
    have hkd := HKi.out 0 hlt
    have HSU := Lib.hid (HTk.out 0 hlt)
    generalize rowAt l 0 = row at *
    have HD := Lib.hid (fun W (g : Grow wr W) => zp0 W b ownk E (hTu.em.grow g) HS.out (fun _ => hev) row qw (by rw [hkd]; decide) (by rw [hkd]; decide))
    clear hTu hkd
    go_wp2_with (go_at_call 117; refine (HD.out _ grI).mono ?_; rintro e' w2 ⟨rfl, hE⟩; obtain ⟨own3, T3⟩ := HTu.out.step grI hE; have HT3 := Lib.hid T3; clear hE T3)
    go_roundw
    case rel => exact ⟨1, own3, by omega, by go_num, by rw [HSU.out]; exact HT3.out⟩
    case measure => simp [intOf]; omega
  · have hkl : k = l.length := by omega
    subst hkl
    clear hTu
    go_wp2_with fail
    go_end0
    exact ⟨rfl, HTu.out.post HG.out⟩
set_option maxRecDepth 100000 in
set_option maxHeartbeats 4000000 in
theorem zxb (o : List Int) (ho : o.length = 18) (p0 : 0 ≤ gt o 1) (p1 : gt o 1 ≤ 1) (k0 : 0 ≤ gt o 13) (k2 : gt o 13 ≤ 2) (base : Int) (hb : zfw base = true) (w : World) :
 Calls Tryz.prog 143 #[.agg (cellsOf o), .int .i64 base] w fun e w' => e = .returned (.int .i64 (zd9 o base)) ∧ Grow w w' := by
 have hh : Hid (∀ p k : Int, gt o 1 = p → gt o 13 = k → zd9 o base = (let zone := if 0 ≤ zg5 base p then zg5 base p else base; if (k = 1 ∧ zone < 8) ∨ (k = 2 ∧ zone ≠ 9) then 10 else zone)) := fun p k hp hk => by subst hp; subst hk; rfl
 have c1 : gt o 1 = 0 ∨ gt o 1 = 1 := by omega
 have c2 : gt o 13 = 0 ∨ gt o 13 = 1 ∨ gt o 13 = 2 := by omega
 rcases zjs hb with rfl | rfl | rfl | rfl | rfl | rfl | rfl <;> rcases c1 with c1 | c1 <;> rcases c2 with c2 | c2 | c2
 all_goals
  rw [hh.out _ _ c1 c2]
  clear hh p0 p1 k0 k2 hb
  go_enter Tryz.func143, Tryz.ntmps143
  go_wp2_with fail
  go_ret
  exact ⟨by rfl, grI⟩
end Go.Proofs.YtgobdndjemicjaaGreatDoor
namespace Go.Proofs.YtgobdndjemicjaaGreatDoor
open Go Go.RowKit Go.Shelf
@[go_sem ↓] theorem z47 (ρ : Operand → Value) (dst : Option Tmp) (x y : Operand) (ty : TypeId) (pos : String) (after : Array Edge) (guard : Option (Nat × Bool)) :
 execOp ρ { dst, op := .store 100 x y, type := ty, pos, after, guard } = zas 100 (ρ x) (ρ y) := rfl
@[go_sem] theorem zuy (w : World) (b o : Nat) (s : Sl) (h : (w.cell? ⟨b, o, none⟩).isSome = true) (hf : w.frozen? ⟨b, o, none⟩ = false) : (zas 100 (.pointer (some ⟨b, o, none⟩)) s.val).run Tryz.prog w = .ok .skip (w.setCell ⟨b, o, none⟩ s.val) :=
 zcj w b o 100 s (by kernel_rfl) h hf
@[go_sem] theorem zu1 (w : World) (b o sb so n c : Nat) (h : (w.cell? ⟨b, o, none⟩).isSome = true) (hf : w.frozen? ⟨b, o, none⟩ = false) : (zas 100 (.pointer (some ⟨b, o, none⟩)) (.slice (some ⟨sb, so, none⟩) n c)).run Tryz.prog w = .ok .skip (w.setCell ⟨b, o, none⟩ (.slice (some ⟨sb, so, none⟩) n c)) :=
 zcj w b o 100 (.mk sb so n c) (by kernel_rfl) h hf
@[go_sem ↓] theorem zmn (ρ : Operand → Value) (dst : Option Tmp) (x : Operand) (ty : TypeId) (pos : String) (after : Array Edge) (guard : Option (Nat × Bool)) :
 execOp ρ { dst, op := .load 110 x, type := ty, pos, after, guard } = za8 110 (ρ x) := rfl
@[go_sem ↓] theorem zli (ρ : Operand → Value) (dst : Option Tmp) (x y : Operand) (ty : TypeId) (pos : String) (after : Array Edge) (guard : Option (Nat × Bool)) :
 execOp ρ { dst, op := .store 110 x y, type := ty, pos, after, guard } = zas 110 (ρ x) (ρ y) := rfl
@[go_sem] theorem ziy (w : World) (b o : Nat) (h : o + 3 ≤ (w.blk b).size) : (za8 110 (.pointer (some ⟨b, o, none⟩))).run Tryz.prog w = .ok (.value (.agg (sub (w.blk b) o 3))) w :=
 zaw w b o 110 3 (by kernel_rfl) (by kernel_rfl) h (by omega)
@[go_sem] theorem zic (w : World) (b : Nat) (cs : Array Value) (h : (w.blk b).size = 3) (hc : cs.size = 3) (h1 : zal cs = true) (hf : w.free b = true) : (zas 110 (.pointer (some ⟨b, 0, none⟩)) (.agg cs)).run Tryz.prog w = .ok .skip (w.setRow b cs) :=
 zax w b 110 3 _ (by kernel_rfl) h hc (by omega) hf h1
@[go_sem ↓] theorem z0a (ρ : Operand → Value) (dst : Option Tmp) (parts : Array (Nat × Operand)) (ty : TypeId) (pos : String) (after : Array Edge) (guard : Option (Nat × Bool)) :
 execOp ρ { dst, op := .build 110 parts, type := ty, pos, after, guard } = za2 110 (parts.map fun (i, x) => (i, ρ x)) := rfl
@[go_sem] theorem zr5 (w : World) (a b c : Int) : (za2 110 #[(0, .int .i64 a), (1, .int .i64 b), (2, .int .i64 c)]).run Tryz.prog w = .ok (.value (.agg (cellsOf [a, b, c]))) w := by kernel_rfl
@[go_sem ↓] theorem z1f (ρ : Operand → Value) (dst : Option Tmp) (n : Nat) (parts : Array (Nat × Operand)) (ty : TypeId) (pos : String) (after : Array Edge) (guard : Option (Nat × Bool)) :
 execOp ρ { dst, op := .buildSlice 100 n parts, type := ty, pos, after, guard } = zc7 100 n (parts.map fun (i, x) => (i, ρ x)) := rfl
@[go_sem] theorem z6l (w : World) (a b c : Int) : (zc7 100 1 #[(0, .agg (cellsOf [a, b, c]))]).run Tryz.prog w = .ok (.value (.slice (some ⟨w.heap.size, 0, none⟩) 1 1)) (w.alloc (.cells (cellsOf [a, b, c]) 110)) := by kernel_rfl
def Em.pendAb (E : Em) (id ctl : Int) (m : List AbN) (wh : Int) (k : Nat) : Em := { E with pend := E.pend ++ (zc9 m wh k).map fun i => [id, i, ctl] }
theorem zt6 (E : Em) (id ctl : Int) (m : List AbN) (wh : Int) (k : Nat) (h : ((m.getD k ⟨0, 0, 0, 0, 0⟩).wh == wh) = true) : E.pendAb id ctl m wh (k + 1) = { E.pendAb id ctl m wh k with pend := (E.pendAb id ctl m wh k).pend ++ [[id, (k : Int), ctl]] } := by
 unfold Em.pendAb
 rw [zew, if_pos h]
 simp
theorem zx1 (E : Em) (id ctl : Int) (m : List AbN) (wh : Int) (k : Nat) (h : ((m.getD k ⟨0, 0, 0, 0, 0⟩).wh == wh) = false) : E.pendAb id ctl m wh (k + 1) = E.pendAb id ctl m wh k := by
 unfold Em.pendAb
 rw [zew, if_neg (by rw [h]; simp), List.append_nil]
theorem zt5 (E : Em) (id ctl : Int) (m : List AbN) (wh : Int) (k : Nat) : (E.pendAb id ctl m wh k).pend.length ≤ E.pend.length + k := by
 unfold Em.pendAb zc9
 rw [List.length_append, List.length_map, List.length_map]
 have := List.length_filter_le (fun i => (m.getD i ⟨0, 0, 0, 0, 0⟩).wh == wh) (List.range k)
 rw [List.length_range] at this
 omega
theorem CardOk.ab_low {w : World} {n : Nat} {c : CdV} {d : CardN} (h : CardOk w n c d) {i : Nat} (hi : i < d.abs.length) : n ≤ c.abs.b := by
 obtain ⟨l, h1, h0, h2⟩ := h.abs
 rcases h0 with rfl | h0
 · have := h2.get.1
   simp at this; omega
 · exact h0
theorem CardOk.abs_n {w : World} {n : Nat} {c : CdV} {d : CardN} (h : CardOk w n c d) : c.abs.n = d.abs.length := by
 obtain ⟨l, h1, _, h2⟩ := h.abs
 rw [h1.len, List.length_map, h2.get.1]
set_option maxRecDepth 100000 in
set_option maxHeartbeats 8000000 in
theorem zgt (T8 : zem) (w : World) (b : Nat) (own : Nat → Prop) (E : Em) (R : Gmt w b own E) (hpl : E.pend.length ≤ 1000000) (a : Nat) (ha : a < E.now.objs.length) (h0 : 0 ≤ gt (rowAt E.now.objs a) 0) (h1 : gt (rowAt E.now.objs a) 0 < 120) (wh ctl : Int) :
 Calls Tryz.prog 146 #[.pointer (some ⟨b, 0, none⟩), .int .i64 (a : Int), .int .i64 wh, .int .i64 ctl] w fun r w' => r = .returned (.tuple #[]) ∧ DPost w b own (E.await a wh ctl) w' := by
 have hown := R.lt
 have HR0 := Lib.hid R
 obtain ⟨V, sd, se, sp, hr, ho⟩ := R
 have hoc := hr.host.rep.objs.cell a 0 ha (by omega)
 have hN := hr.host.rep.objs.len
 have hob := (zaz hoc).1
 rw [Nat.add_zero] at hoc
 have hH := hr.host
 have hcell := zae (hH).free (hH).blk; have hfz := zag (hH).free; have hset := zah (hH).free (hH).blk; have hblk := (hH).blk; have hfree := (hH).free; have hlt := (hH).lt; have hne1 : ¬ b = (w).heap.size := (by omega); have hne2 : ¬ (w).heap.size = b := (by omega)
 have HL := Lib.hid hown
 clear hr ho hH hblk hown
 unfold Em.await
 rw [Int.toNat_natCast, if_pos ⟨h0, h1⟩]
 obtain ⟨c, hc⟩ := Int.eq_ofNat_of_zero_le h0
 rw [hc] at hoc h1 ⊢
 rw [Int.toNat_natCast]
 have hc120 : c < 120 := by omega
 have ha1 : (a : Int) < E.now.objs.length := by omega
 have ha0 : (0 : Int) ≤ (a : Int) := by omega
 have HCa := Lib.hid (fun W => T8 W c hc120)
 have hab : (cardN c).abs.length ≤ 1000 := Nat.le_trans (zfx c) (by omega)
 have hfin : { E with pend := E.pend ++ (usesN (cardN c).abs wh).map fun i => [(a : Int), i, ctl] } = E.pendAb a ctl (cardN c).abs wh (cardN c).abs.length := rfl
 rw [hfin]
 have HZ : Hid (E.pendAb a ctl (cardN c).abs wh 0 = E) := by rw [Hid]; unfold Em.pendAb zc9; simp
 have HYs := Lib.hid (zt6 E a ctl (cardN c).abs wh)
 have HNo := Lib.hid (zx1 E a ctl (cardN c).abs wh)
 have HLe := Lib.hid (zt5 E a ctl (cardN c).abs wh)
 have HOK := Lib.hid (fun (W W' : World) cc (h : CardIs W' W.heap.size cc (cardF c)) => h.ok hc120)
 generalize hm : (cardN c).abs = m at *
 have HM := Lib.hid hm
 clear hm
 clear h0 h1 hc hfin T8
 go_enter Tryz.func146, Tryz.ntmps146
 go_wp2_with (go_at_call 39; refine (HCa.out _).mono ?_; rintro e' w' ⟨cc, rfl, hC, nx, rfl⟩; have hC2 := HOK.out _ _ _ hC; (try simp only [zad] at hC2); (try simp only [zac] at hC2); have HC := Lib.hid hC2; have hcn : cc.abs.n = m.length := (by rw [hC2.abs_n, HM.out]); clear hC hC2)
 have hG : Grow w ((w.plus nx).alloc (.cells cc.arr 44)) := grI
 have hC1 := HC.out.grow (w' := (w.plus nx).alloc (.cells cc.arr 44)) grI
 have hem : Gmt ((w.plus nx).alloc (.cells cc.arr 44)) b own E := HR0.out.grow hG
 have hln : w.heap.size + nx.objs.size < ((w.plus nx).alloc (.cells cc.arr 44)).heap.size := by simp only [zaa, zab]; omega
 have hcs := Lib.hid hcn
 clear HC hcell hfz hset hfree hcn
 generalize (w.plus nx).alloc (.cells cc.arr 44) = W1 at *
 have HC1 := Lib.hid hC1
 have HEM := Lib.hid hem
 have HG := Lib.hid hG
 clear hC1 hem hG
 go_loopw [32] (fun i wr => ∃ (k : Nat) (ownk : Nat → Prop), k ≤ m.length ∧ i = .int .i64 k ∧ TurnG W1 b own (E.pendAb a ctl m wh k) wr ownk) (fun i _ => m.length - (intOf i).toNat)
 case atStart => exact ⟨0, own, by omega, rfl, by rw [HZ.out]; exact TurnG.first HEM.out⟩
 case round =>
  obtain ⟨k, ownk, hk, rfl, hTu⟩ := hrel
  have HTu := Lib.hid hTu
  by_cases hlt : k < m.length
  · have hlt2 : k < (cardN c).abs.length := by rw [HM.out]; exact hlt
    obtain ⟨ab, _, q1, q2, q3, _, q5⟩ := HC1.out.ab hlt2
    have hlow := HC1.out.ab_low hlt2
    have hbk := hTu.kept.blk _ q1 (fun ho => by have := HL.out _ ho; omega)
    have q1' : cc.abs.b < wr.heap.size := Nat.lt_of_lt_of_le q1 hTu.kept.size
    rw [← hbk] at q2 q3
    have hwh : (m.getD k ⟨0, 0, 0, 0, 0⟩).wh = ab.wh := by rw [← HM.out]; exact q5.1.symm
    have i1 : (0 : Int) ≤ (k : Int) ∧ (k : Int) < (cc.abs.n : Int) := by have := hcs.out; omega
    have hpk : (E.pendAb a ctl m wh k).pend.length ≤ 1001000 := by have := HLe.out k; omega
    cases hd2 : (ab.wh == wh) with
    | false =>
      have HS := Lib.hid (HNo.out k (by rw [hwh]; exact hd2))
      clear hTu q5 hwh hbk
      go_wp2_with fail
      go_roundw
      case rel => exact ⟨k + 1, ownk, by omega, by go_num, by rw [HS.out]; exact HTu.out.grow grI⟩
      case measure => simp [intOf]; omega
    | true =>
      have HS := Lib.hid (HYs.out k (by rw [hwh]; exact hd2))
      generalize E.pendAb a ctl m wh k = Ek at *
      obtain ⟨V2, sd2, se2, sp2, hr2, ho2⟩ := hTu.em
      obtain ⟨_, _, hc39, _⟩ := hr2.cells
      have hH2 := hr2.host
      have hfz2 := zag hH2.free
      have hset2 := zah hH2.free hH2.blk
      have hfree2 := hH2.free
      have hlt2 := hH2.lt
      have hspn : sp2.n = Ek.pend.length := hr2.pend.len
      have hne3 : ¬ b = wr.heap.size := by omega
      have hne4 : ¬ wr.heap.size = b := by omega
      have HR2 := Lib.hid hr2
      have HO2 := Lib.hid ho2
      clear hTu hr2 ho2 hH2 q5 hwh hbk
      go_wp2_with (at_builtin; refine zcs rfl _ _ 100 rfl 110 Tryz.t110 (.agg (cellsOf (List.replicate 3 0))) 3 24 Tryz.underlying100 (by kernel_rfl) (by kernel_rfl) (by kernel_rfl) (by kernel_rfl) (by omega) rfl sp2 (.mk _ 0 1 1) (zci Ek.pend) (zci [[(a : Int), (k : Int), ctl]]) rfl rfl (HR2.out.pend.cells.grow grI) (HR2.out.pendR.grow grI) (zdc _ _ 3 [(a : Int), (k : Int), ctl] rfl (by go_simp)) (zay _) (zay _) (by rw [hspn]; show Ek.pend.length + 1 ≤ 4194304; omega) ?_; intro s' w' c1 c2 c3 c4 c5 c6; have hS := ybg HR2.out (e := [(a : Int), (k : Int), ctl]) rfl grI c1 c2 c3 c4; have hq3 := hS.blk; have hqf3 := hS.free; have hqc := zae hqf3 hq3; have hqz := zag hqf3; have hqs3 := zah hqf3 hq3; have HSP := Lib.hid hS; clear hS hq3 c1 c2 c3 c4 c5 c6)
      go_roundw
      case rel =>
       obtain ⟨own3, T3⟩ := HTu.out.step (Grow.refl _) (HSP.out.post HR2.out HO2.out)
       exact ⟨k + 1, own3, by omega, by go_num, by rw [HS.out]; exact T3⟩
      case measure => simp [intOf]; omega
  · have hkl : k = m.length := by omega
    subst hkl
    clear hTu
    go_wp2_with fail
    go_end0
    exact ⟨rfl, HTu.out.post HG.out⟩
end Go.Proofs.YtgobdndjemicjaaGreatDoor
namespace Go.Proofs.YtgobdndjemicjaaGreatDoor
open Go Go.RowKit Go.Shelf
structure At8 (W : World) (b : Nat) (own : Nat → Prop) (E0 : Em) (S : St) (a : Nat) (r : List Int) (n : Nat) (E : Em) (wk : World) (ownk : Nat → Prop) : Prop where
 turn : TurnG W b own E wk ownk
 at_ : EmAt E0 S a r n E
theorem EmAt.small {E0 E : Em} {S : St} {a n : Nat} {r : List Int} (h : EmAt E0 S a r n E) (hS : Small S) : Small E.now :=
 ⟨by rw [h.now]; show (S.objs.set a r).length ≤ _; rw [List.length_set]; exact hS.objs, fun z hz => by rw [h.now]; exact hS.list z hz⟩
theorem EmAt.row {E0 E : Em} {S : St} {a n : Nat} {r : List Int} (h : EmAt E0 S a r n E) (ha : a < S.objs.length) : a < E.now.objs.length ∧ rowAt E.now.objs a = r := by
 rw [h.now]
 refine ⟨by show a < (S.objs.set a r).length; rw [List.length_set]; exact ha, ?_⟩
 show rowAt (S.objs.set a r) a = r
 rw [zby _ _ _ _ ha, if_pos rfl]
theorem zf6 {W : World} {b : Nat} {own : Nat → Prop} {E0 : Em} {S : St} {a : Nat} {r : List Int} {n : Nat} {E : Em} {wk : World} {ownk : Nat → Prop} (h : At8 W b own E0 S a r n E wk ownk) (hS : Small S) (ha : a < S.objs.length) (wx : World) (g : Grow wk wx) (f : Nat) (fi : Int) (hfi : fi = (f : Int)) (v : Int) (hf : f < 18) (h3 : f ≠ 3) (hv : -1073741824 ≤ v ∧ v ≤ 1073741824) (hn : n < 65536) :
 Calls Tryz.prog 61 #[.pointer (some ⟨b, 0, none⟩), .int .i64 (a : Int), .int .i64 fi, .int .i64 v] wx fun e w' => e = .returned (.tuple #[]) ∧ ∃ own2, At8 W b own E0 S a (r.set f v) (n + 1) (E.setObj a fi v) w' own2 := by
 subst hfi
 refine (zme wx b ownk E (h.turn.em.grow g) (h.at_.small hS) (fun _ => by have := h.at_.evs; omega) a f v (h.at_.row ha).1 hf h3 hv).mono ?_
 rintro e w' ⟨he, hE⟩
 obtain ⟨own2, T⟩ := h.turn.step g hE
 exact ⟨he, own2, T, h.at_.set ha f v hf h3 hv hn⟩
theorem zjv {W : World} {b : Nat} {own : Nat → Prop} {E0 : Em} {S : St} {a : Nat} {r : List Int} {n : Nat} {E : Em} {wk : World} {ownk : Nat → Prop} (h : At8 W b own E0 S a r n E wk ownk) (hS : Small S) (ha : a < S.objs.length) (wx : World) (g : Grow wk wx) (h0 : 0 ≤ gt r 17) (h3 : gt r 17 ≤ 3) (p : Int) (p0 : 0 ≤ p) (p3 : p ≤ 3) (hn : n < 65536) :
 Calls Tryz.prog 142 #[.pointer (some ⟨b, 0, none⟩), .int .i64 (a : Int), .int .i64 p] wx fun e w' => e = .returned (.tuple #[]) ∧ ∃ own2, At8 W b own E0 S a (r.set 17 (zdp (gt r 17) p)) (n + 1) (E.show a p) w' own2 := by
 obtain ⟨q1, q2⟩ := h.at_.row ha
 refine (zxc wx b ownk E (h.turn.em.grow g) (h.at_.small hS) h.at_.err (by have := h.at_.evs; omega) a q1 (by rw [q2]; exact h0) (by rw [q2]; exact h3) p p0 p3).mono ?_
 rintro e w' ⟨he, hE⟩
 obtain ⟨own2, T⟩ := h.turn.step g hE
 exact ⟨he, own2, T, h.at_.show ha p h0 h3 p0 p3 hn⟩
def zdd (r : List Int) (k : Nat) : List Int := (restL.take k).foldl (fun r f => r.set f.toNat 0) r
theorem zui (k : Nat) (h : k < 9) : restL.take (k + 1) = restL.take k ++ [gt restL k] := by
 have : k = 0 ∨ k = 1 ∨ k = 2 ∨ k = 3 ∨ k = 4 ∨ k = 5 ∨ k = 6 ∨ k = 7 ∨ k = 8 := by omega
 rcases this with rfl | rfl | rfl | rfl | rfl | rfl | rfl | rfl | rfl <;> rfl
theorem zge (r : List Int) (k : Nat) (h : k < 9) : zdd r (k + 1) = (zdd r k).set (gt restL k).toNat 0 := by
 unfold zdd
 rw [zui k h, List.foldl_append]; rfl
theorem zm0 (k : Nat) (h : k < 9) : ∃ f : Nat, gt restL k = f ∧ f < 18 ∧ f ≠ 3 := by
 refine ⟨k + 4, ?_, by omega, by omega⟩
 have : k = 0 ∨ k = 1 ∨ k = 2 ∨ k = 3 ∨ k = 4 ∨ k = 5 ∨ k = 6 ∨ k = 7 ∨ k = 8 := by omega
 rcases this with rfl | rfl | rfl | rfl | rfl | rfl | rfl | rfl | rfl <;> rfl
@[go_sem] theorem z8y (w : World) : (zc7 23 9 #[(0, .int .i64 4), (1, .int .i64 5), (2, .int .i64 6), (3, .int .i64 7), (4, .int .i64 8), (5, .int .i64 9), (6, .int .i64 10), (7, .int .i64 11), (8, .int .i64 12)]).run Tryz.prog w = .ok (.value (.slice (some ⟨w.heap.size, 0, none⟩) 9 9)) (w.alloc (.cells (cellsOf restL) 3)) := by kernel_rfl
end Go.Proofs.YtgobdndjemicjaaGreatDoor
