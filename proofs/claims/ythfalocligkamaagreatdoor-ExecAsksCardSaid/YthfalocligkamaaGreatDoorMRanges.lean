/- The walk of state's ranges. -/
import Derived.Test.YthfalocligkamaaGreatDoorMSt
import Derived.Test.YthfalocligkamaaGreatDoorMEq
import Derived.Test.YthfalocligkamaaGreatDoorLay
import Derived.Shelf.SlicesE.IndexFunc
import Derived.Shelf.SlicesQ.IndexFunc
import Derived.Ground.SlgfProg
import Derived.Lib.SliceRun
import Derived.Deep.Light
namespace Go.Proofs.YthfalocligkamaaGreatDoor
open Go Go.RowKit
@[go_sem] theorem yhu (c : List Int) (o : Nat) (h : o + 2 ≤ c.length) : sub (cellsOf c) o 2 = cellsOf [gt c o, gt c (o + 1)] := by
 unfold sub
 apply Array.ext_getElem?
 intro i
 rw [Array.getElem?_extract]
 match i with
 | 0 => rw [if_pos (by rw [zb8]; omega), Nat.add_zero, za5 _ _ (by omega)]; rfl
 | 1 => rw [if_pos (by rw [zb8]; omega), za5 _ _ (by omega)]; rfl
 | n + 2 => rw [if_neg (by omega), Array.getElem?_eq_none (by simp [cellsOf])]
@[go_sem] theorem yg1 (a b : Int) : gt [a, b] 0 = a := rfl
@[go_sem] theorem yg2 (a b : Int) : gt [a, b] 1 = b := rfl
theorem z4j (num : Nat → Int) (o n a b : Nat) (h : a + b ≤ n) : sub (cellsOf (zc7 num o n)) a b = cellsOf (zc7 num (o + a) b) := by
 unfold sub
 apply Array.ext_getElem?
 intro i
 rw [Array.getElem?_extract]
 by_cases hi : i < b
 · rw [if_pos (by rw [zb8, zd3]; omega), za5 _ _ (by rw [zd3]; omega), za5 _ _ (by rw [zd3]; omega), zej _ _ _ _ (by omega), zej _ _ _ _ hi, Nat.add_assoc]
 · rw [if_neg (by omega), Array.getElem?_eq_none (by rw [zb8, zd3]; omega)]
theorem zb7 {P : Program} (w : World) (T e n k : Nat) (hT : P.underlying T = some (.array n e)) (ha : ∀ w, (isAgg e).run P w = .ok true w) (hs : ∀ w, (sizeOf e).run P w = .ok k w) (cs : Array Value) (q : IntKind) (i : Int) (h0 : 0 ≤ i) (h1 : i < n) :
 (Instr.index T (.agg cs) (.int q i)).run P w = .ok (.agg (sub cs (i.toNat * k) k)) w := by
 simp only [Instr.index, asIntOf, Sem.run_bind, Sem.run_pure, Result.andThen_ok, run_underlying hT, h0, h1, and_self, if_true, hs, part, ha, sub]
@[go_sem] theorem z5l (w : World) (c : List Int) (hc : c.length = 18) (k : IntKind) (i : Int) (h0 : 0 ≤ i) (h1 : i < 18) : (Instr.index 57 (.agg (cellsOf c)) (.int k i)).run Tryz.prog w = .ok (I (gt c i.toNat)) w :=
 zgf w 57 3 18 Tryz.underlying57 Tryz.underlying3 (by kernel_rfl) c hc k i h0 h1
@[go_sem] theorem z2f (w : World) (cs : Array Value) (q : IntKind) (i : Int) (h0 : 0 ≤ i) (h1 : i < 2) : (Instr.index 26 (.agg cs) (.int q i)).run Tryz.prog w = .ok (.agg (sub cs (i.toNat * 9) 9)) w :=
 zb7 w 26 25 2 9 Tryz.underlying26 (fun w => by kernel_rfl) (fun w => by kernel_rfl) cs q i h0 h1
@[go_sem] theorem yex (w : World) (cs : Array Value) (q : IntKind) (i : Int) (h0 : 0 ≤ i) (h1 : i < 9) : (Instr.index 128 (.agg cs) (.int q i)).run Tryz.prog w = .ok (.agg (sub cs (i.toNat * 2) 2)) w :=
 zb7 w 128 125 9 2 Tryz.underlying128 (fun w => by kernel_rfl) (fun w => by kernel_rfl) cs q i h0 h1
@[go_sem] theorem yew (w : World) (cs : Array Value) (q : IntKind) (i : Int) (h0 : 0 ≤ i) (h1 : i < 7) : (Instr.index 130 (.agg cs) (.int q i)).run Tryz.prog w = .ok (.agg (sub cs (i.toNat * 2) 2)) w :=
 zb7 w 130 125 7 2 Tryz.underlying130 (fun w => by kernel_rfl) (fun w => by kernel_rfl) cs q i h0 h1
@[go_sem ↓] theorem z5s (ρ : Operand → Value) (dst : Option Tmp) (x : Operand) (ty : TypeId) (pos : String) (after : Array Edge) (guard : Option (Nat × Bool)) :
 execOp ρ { dst, op := .load 26 x, type := ty, pos, after, guard } = za3 26 (ρ x) := rfl
@[go_sem ↓] theorem z4h (ρ : Operand → Value) (dst : Option Tmp) (x y : Operand) (ty : TypeId) (pos : String) (after : Array Edge) (guard : Option (Nat × Bool)) :
 execOp ρ { dst, op := .store 26 x y, type := ty, pos, after, guard } = zaz 26 (ρ x) (ρ y) := rfl
@[go_sem] theorem zu1 (w : World) (b o : Nat) (h : o + 18 ≤ (w.blk b).size) : (za3 26 (.pointer (some ⟨b, o, none⟩))).run Tryz.prog w = .ok (.value (.agg (sub (w.blk b) o 18))) w :=
 zaw w b o 26 18 (by kernel_rfl) (by kernel_rfl) h (by omega)
@[go_sem] theorem ztw (w : World) (b : Nat) (cs : Array Value) (h : (w.blk b).size = 18) (hc : cs.size = 18) (h1 : zai cs = true) (hf : w.free b = true) : (zaz 26 (.pointer (some ⟨b, 0, none⟩)) (.agg cs)).run Tryz.prog w = .ok .skip (w.setRow b cs) :=
 zax w b 26 18 _ (by kernel_rfl) h hc (by omega) hf h1
@[go_sem ↓] theorem ych (ρ : Operand → Value) (dst : Option Tmp) (x : Operand) (ty : TypeId) (pos : String) (after : Array Edge) (guard : Option (Nat × Bool)) :
 execOp ρ { dst, op := .load 25 x, type := ty, pos, after, guard } = za3 25 (ρ x) := rfl
@[go_sem ↓] theorem yad (ρ : Operand → Value) (dst : Option Tmp) (x y : Operand) (ty : TypeId) (pos : String) (after : Array Edge) (guard : Option (Nat × Bool)) :
 execOp ρ { dst, op := .store 25 x y, type := ty, pos, after, guard } = zaz 25 (ρ x) (ρ y) := rfl
@[go_sem] theorem z26 (w : World) (b o : Nat) (h : o + 9 ≤ (w.blk b).size) : (za3 25 (.pointer (some ⟨b, o, none⟩))).run Tryz.prog w = .ok (.value (.agg (sub (w.blk b) o 9))) w :=
 zaw w b o 25 9 (by kernel_rfl) (by kernel_rfl) h (by omega)
@[go_sem] theorem zz8 (w : World) (b : Nat) (cs : Array Value) (h : (w.blk b).size = 9) (hc : cs.size = 9) (h1 : zai cs = true) (hf : w.free b = true) : (zaz 25 (.pointer (some ⟨b, 0, none⟩)) (.agg cs)).run Tryz.prog w = .ok .skip (w.setRow b cs) :=
 zax w b 25 9 _ (by kernel_rfl) h hc (by omega) hf h1
@[go_sem ↓] theorem z92 (ρ : Operand → Value) (dst : Option Tmp) (x : Operand) (ty : TypeId) (pos : String) (after : Array Edge) (guard : Option (Nat × Bool)) :
 execOp ρ { dst, op := .load 27 x, type := ty, pos, after, guard } = za3 27 (ρ x) := rfl
@[go_sem ↓] theorem z87 (ρ : Operand → Value) (dst : Option Tmp) (x y : Operand) (ty : TypeId) (pos : String) (after : Array Edge) (guard : Option (Nat × Bool)) :
 execOp ρ { dst, op := .store 27 x y, type := ty, pos, after, guard } = zaz 27 (ρ x) (ρ y) := rfl
@[go_sem] theorem zz0 (w : World) (b o : Nat) (h : o + 7 ≤ (w.blk b).size) : (za3 27 (.pointer (some ⟨b, o, none⟩))).run Tryz.prog w = .ok (.value (.agg (sub (w.blk b) o 7))) w :=
 zaw w b o 27 7 (by kernel_rfl) (by kernel_rfl) h (by omega)
@[go_sem] theorem zyd (w : World) (b : Nat) (cs : Array Value) (h : (w.blk b).size = 7) (hc : cs.size = 7) (h1 : zai cs = true) (hf : w.free b = true) : (zaz 27 (.pointer (some ⟨b, 0, none⟩)) (.agg cs)).run Tryz.prog w = .ok .skip (w.setRow b cs) :=
 zax w b 27 7 _ (by kernel_rfl) h hc (by omega) hf h1
def zdv (bs o : List Int) (k : Nat) : Bool := (List.range k).all fun f => inB (gt o f) (gt bs (f * 2)) (gt bs (f * 2 + 1))
theorem zjo (bs o : List Int) (k : Nat) : zdv bs o (k + 1) = (zdv bs o k && inB (gt o k) (gt bs (k * 2)) (gt bs (k * 2 + 1))) := by
 simp [zdv, List.range_succ]
theorem zir (bs o : List Int) (k n : Nat) (hk : k < n) (h : inB (gt o k) (gt bs (k * 2)) (gt bs (k * 2 + 1)) = false) : zdv bs o n = false := by
 rw [zdv, List.all_eq_false]
 exact ⟨k, List.mem_range.2 hk, by simp [h]⟩
def zeu (S : St) (k : Nat) : Bool := (List.range k).all fun i => zdv (zal S.objs.length) (rowAt S.objs i) 18
theorem zjn (S : St) (k : Nat) : zeu S (k + 1) = (zeu S k && zdv (zal S.objs.length) (rowAt S.objs k) 18) := by simp [zeu, List.range_succ]
theorem zk4 (S : St) (k n : Nat) (hk : k < n) (h : zdv (zal S.objs.length) (rowAt S.objs k) 18 = false) : zeu S n = false := by
 rw [zeu, List.all_eq_false]
 exact ⟨k, List.mem_range.2 hk, by simp [h]⟩
def zfn (S : St) (k : Nat) : Bool := (List.range k).all fun i => zdv plBounds (zc7 S.num (i * 9) 9) 9
theorem zk7 (S : St) (k : Nat) : zfn S (k + 1) = (zfn S k && zdv plBounds (zc7 S.num (k * 9) 9) 9) := by simp [zfn, List.range_succ]
theorem znj (S : St) (k n : Nat) (hk : k < n) (h : zdv plBounds (zc7 S.num (k * 9) 9) 9 = false) : zfn S n = false := by
 rw [zfn, List.all_eq_false]
 exact ⟨k, List.mem_range.2 hk, by simp [h]⟩
def zbp (S : St) : Bool := zeu S S.objs.length && zfn S 2 && zdv gmBounds (zc7 S.num 18 7) 7
set_option maxRecDepth 100000 in
set_option maxHeartbeats 4000000 in
theorem zs7 (S : St) (V : SV) (w : World) (R : RepSt w V S) (hS : Small S) (G : Glob w) :
 Calls Tryz.prog 55 #[.agg (stA V S.num)] w fun e w' => e = .returned (.bool (zbp S)) ∧ Grow w w' := by
 have hN := R.objs.len
 have GG := Lib.hid G
 have hSO := hS.objs
 clear G
 have hbl : (zal (S.objs.length : Int)).length = 36 := rfl
 go_enter Tryz.func55, Tryz.ntmps55
 go_wp2_with (go_at_call 89; refine (zph _ _ (GG.out.grow grI)).mono ?_; rintro e w' ⟨rfl, nx, rfl⟩)
 go_loopw [21] (fun i wr => ∃ k : Nat, k ≤ S.objs.length ∧ i = .int .i64 k ∧ Hid (zeu S k = true) ∧ Grow (((w.alloc (.cells (stA V S.num) 29)).plus nx).alloc (.cells (cellsOf (zal S.objs.length)) 126)) wr) (fun i _ => S.objs.length - (intOf i).toNat)
 case atStart => exact ⟨0, by omega, rfl, rfl, grI⟩
 case round =>
  obtain ⟨k, hk, rfl, hok, x, rfl⟩ := hrel
  by_cases hlt : k < S.objs.length
  · obtain ⟨hb, hw, hsz, hsub, hcell⟩ := R.objs.at (by omega) k hlt
    have HC := Lib.hid hcell
    clear hcell
    generalize hrow : rowAt S.objs k = row at *
    have HR := Lib.hid hrow
    clear hrow
    go_wp2_with fail
    go_loopw [26] (fun i wr => ∃ f : Nat, f ≤ 18 ∧ i = .int .i64 f ∧ Hid (zdv (zal S.objs.length) row f = true) ∧ Grow ((((w.alloc (.cells (stA V S.num) 29)).plus nx).alloc (.cells (cellsOf (zal S.objs.length)) 126)).plus x |>.alloc (.cells (cellsOf row) 57)) wr) (fun i _ => 18 - (intOf i).toNat)
    case atStart => exact ⟨0, by omega, rfl, rfl, grI⟩
    case round =>
     obtain ⟨f, hf, rfl, hof, y, rfl⟩ := hrel
     by_cases hft : f < 18
     · have hf2 : f * 2 + 2 ≤ 36 := by omega
       by_cases hin : inB (gt row f) (gt (zal S.objs.length) (f * 2)) (gt (zal S.objs.length) (f * 2 + 1)) = true
       · have hof2 : Hid (zdv (zal S.objs.length) row (f + 1) = true) := by rw [Hid, zjo, hof.out, hin]; rfl
         go_wp2_with (go_at_call 90; refine (zhw _ _ _ _).mono ?_; rintro e w' ⟨rfl, ny, rfl⟩)
         go_roundw
         case rel => exact ⟨f + 1, by omega, by go_num, hof2, grI⟩
         case measure => simp [intOf]; omega
       · have hin' : inB (gt row f) (gt (zal S.objs.length) (f * 2)) (gt (zal S.objs.length) (f * 2 + 1)) = false := by simpa using hin
         have hbad : Hid (zbp S = false) := by
          rw [Hid, zbp, zk4 S k _ hlt (by rw [HR.out]; exact zir _ _ f 18 hft hin')]; rfl
         clear hin
         go_wp2_with (go_at_call 90; refine (zhw _ _ _ _).mono ?_; rintro e w' ⟨rfl, ny, rfl⟩)
         go_ret
         exact ⟨zao hbad.out.symm, grI⟩
     · have hok2 : Hid (zeu S (k + 1) = true) := by rw [Hid, zjn, hok.out, HR.out, ← show f = 18 by omega, hof.out]; rfl
       go_wp2_with fail
       go_roundw
       case rel => exact ⟨k + 1, by omega, by go_num, hok2, grI⟩
       case measure => simp [intOf]; omega
  · have hok2 : Hid (zeu S S.objs.length = true) := by rw [Hid, ← show k = S.objs.length by omega]; exact hok.out
    clear hok
    go_wp2_with fail
    go_loopw [40] (fun i wr => ∃ p : Nat, p ≤ 2 ∧ i = .int .i64 p ∧ Hid (zfn S p = true) ∧ Grow (w.alloc (.cells (stA V S.num) 29)) wr) (fun i _ => 2 - (intOf i).toNat)
    case atStart => exact ⟨0, by omega, rfl, rfl, grI⟩
    case round =>
     obtain ⟨p, hp, rfl, hpo, z, rfl⟩ := hrel
     by_cases hpt : p < 2
     · have hsp : sub (cellsOf (zc7 S.num 0 18)) (p * 9) 9 = cellsOf (zc7 S.num (p * 9) 9) := by rw [z4j _ _ _ _ _ (by omega), Nat.zero_add]
       go_wp2_with (go_at_call 91; refine (zpk _ (GG.out.grow grI)).mono ?_; rintro e w' ⟨rfl, n2, rfl⟩)
       have hbp : plBounds.length = 18 := rfl
       go_loopw [44] (fun i wr => ∃ f : Nat, f ≤ 9 ∧ i = .int .i64 f ∧ Hid (zdv plBounds (zc7 S.num (p * 9) 9) f = true) ∧ Grow (((w.alloc (.cells (stA V S.num) 29)).plus z).alloc (.cells (cellsOf (zc7 S.num (p * 9) 9)) 25)) wr) (fun i _ => 9 - (intOf i).toNat)
       case atStart => exact ⟨0, by omega, rfl, rfl, grI⟩
       case round =>
        obtain ⟨f, hf, rfl, hof, y, rfl⟩ := hrel
        by_cases hft : f < 9
        · have hf2 : f * 2 + 2 ≤ 18 := by omega
          by_cases hin : inB (gt (zc7 S.num (p * 9) 9) f) (gt plBounds (f * 2)) (gt plBounds (f * 2 + 1)) = true
          · have hof2 : Hid (zdv plBounds (zc7 S.num (p * 9) 9) (f + 1) = true) := by rw [Hid, zjo, hof.out, hin]; rfl
            go_wp2_with fail
            refine zab (by kernel_rfl) (by kernel_rfl) ?_; (repeat (go_big_quiet_step ( (go_at_call 90; refine Calls.grow (zhw _ _ _ _)) ))); refine wpQuiet_nil ?_; rintro _ ⟨nx, rfl⟩
            go_wp2_with fail
            go_roundw
            case rel => exact ⟨f + 1, by omega, by go_num, hof2, grI⟩
            case measure => simp [intOf]; omega
          · have hin' : inB (gt (zc7 S.num (p * 9) 9) f) (gt plBounds (f * 2)) (gt plBounds (f * 2 + 1)) = false := by simpa using hin
            have hbad : Hid (zbp S = false) := by
             rw [Hid, zbp, znj S p _ hpt (zir _ _ f 9 hft hin')]; simp
            clear hin
            go_wp2_with fail
            refine zab (by kernel_rfl) (by kernel_rfl) ?_; (repeat (go_big_quiet_step ( (go_at_call 90; refine Calls.grow (zhw _ _ _ _)) ))); refine wpQuiet_nil ?_; rintro _ ⟨nx, rfl⟩
            go_wp2_with fail
            go_ret
            exact ⟨zao hbad.out.symm, grI⟩
        · have hpo2 : Hid (zfn S (p + 1) = true) := by
           have h1 := hof.out
           rw [show f = 9 by omega] at h1
           rw [Hid, zk7, hpo.out, h1]; rfl
          go_wp2_with fail
          go_roundw
          case rel => exact ⟨p + 1, by omega, by go_num, hpo2, grI⟩
          case measure => simp [intOf]; omega
     · have hpo2 : Hid (zfn S 2 = true) := by rw [Hid, ← show p = 2 by omega]; exact hpo.out
       have hbp : gmBounds.length = 14 := rfl
       clear hpo
       go_wp2_with (go_at_call 92; refine (z08 _ (GG.out.grow grI)).mono ?_; rintro e w' ⟨rfl, n2, rfl⟩)
       go_loopw [57] (fun i wr => ∃ f : Nat, f ≤ 7 ∧ i = .int .i64 f ∧ Hid (zdv gmBounds (zc7 S.num 18 7) f = true) ∧ Grow (w.alloc (.cells (stA V S.num) 29)) wr) (fun i _ => 7 - (intOf i).toNat)
       case atStart => exact ⟨0, by omega, rfl, rfl, grI⟩
       case round =>
        obtain ⟨f, hf, rfl, hof, y, rfl⟩ := hrel
        by_cases hft : f < 7
        · have hf2 : f * 2 + 2 ≤ 14 := by omega
          have hgn : gt (zc7 S.num 18 7) f = S.num (18 + f) := zej _ _ _ _ hft
          have hcg : (stA V S.num)[30 + f]? = some (I (S.num (18 + f))) := by rw [show 30 + f = 12 + (18 + f) by omega]; exact za7 _ _ _ (by omega)
          by_cases hin : inB (S.num (18 + f)) (gt gmBounds (f * 2)) (gt gmBounds (f * 2 + 1)) = true
          · have hof2 : Hid (zdv gmBounds (zc7 S.num 18 7) (f + 1) = true) := by rw [Hid, zjo, hof.out, hgn, hin]; rfl
            go_wp2_with fail
            refine zab (by kernel_rfl) (by kernel_rfl) ?_; (repeat (go_big_quiet_step ( (go_at_call 90; refine Calls.grow (zhw _ _ _ _)) ))); refine wpQuiet_nil ?_; rintro _ ⟨nx, rfl⟩
            go_wp2_with fail
            go_roundw
            case rel => exact ⟨f + 1, by omega, by go_num, hof2, grI⟩
            case measure => simp [intOf]; omega
          · have hin' : inB (S.num (18 + f)) (gt gmBounds (f * 2)) (gt gmBounds (f * 2 + 1)) = false := by simpa using hin
            have hbad : Hid (zbp S = false) := by
             rw [Hid, zbp, zir gmBounds (zc7 S.num 18 7) f 7 hft (by rw [hgn]; exact hin')]; simp
            clear hin
            go_wp2_with fail
            refine zab (by kernel_rfl) (by kernel_rfl) ?_; (repeat (go_big_quiet_step ( (go_at_call 90; refine Calls.grow (zhw _ _ _ _)) ))); refine wpQuiet_nil ?_; rintro _ ⟨nx, rfl⟩
            go_wp2_with fail
            go_ret
            exact ⟨zao hbad.out.symm, grI⟩
        · have hyes : Hid (zbp S = true) := by
           have h1 := hof.out
           rw [show f = 7 by omega] at h1
           rw [Hid, zbp, hok2.out, hpo2.out, h1]; rfl
          go_wp2_with fail
          go_ret
          exact ⟨zao hyes.out.symm, grI⟩
end Go.Proofs.YthfalocligkamaaGreatDoor
namespace Go.Proofs.YthfalocligkamaaGreatDoor
open Go Go.RowKit
def zdg (z : Int) : Bool := decide (0 ≤ z) && decide (z < 8)
def ze8 (z : Int) : Int := if zdg z then z - z % 2 else if z < 0 ∨ 11 ≤ z then 0 else z
def zfr (z : Int) : Int := if zdg z then z % 2 else 0
theorem ze9 (z : Int) (w : World) :
 Calls Tryz.prog 128 #[.int .i64 z] w fun e w' => e = .returned (.tuple #[.int .i64 (ze8 z), .int .i64 (zfr z), .bool (zdg z)]) ∧ w' = w := by
 by_cases h0 : z < 0
 · have e1 : Hid (ze8 z = 0 ∧ zfr z = 0 ∧ zdg z = false) := by
    have : zdg z = false := by simp [zdg]; omega
    refine ⟨by rw [ze8, this, if_neg (by simp), if_pos (by omega)], by rw [zfr, this]; rfl, this⟩
   go_enter Tryz.func128, Tryz.ntmps128
   go_wp2_with fail
   go_ret3
   exact ⟨by rw [e1.out.1, e1.out.2.1, e1.out.2.2]; rfl, rfl⟩
 · by_cases h8 : z < 8
   · have : z = 0 ∨ z = 1 ∨ z = 2 ∨ z = 3 ∨ z = 4 ∨ z = 5 ∨ z = 6 ∨ z = 7 := by omega
     rcases this with rfl | rfl | rfl | rfl | rfl | rfl | rfl | rfl
     all_goals
      go_enter Tryz.func128, Tryz.ntmps128
      go_wp2_with fail
      go_ret3
      exact ⟨rfl, rfl⟩
   · have ho : zdg z = false := by simp [zdg]; omega
     have e2 : Hid (zfr z = 0 ∧ zdg z = false) := ⟨by rw [zfr, ho]; rfl, ho⟩
     by_cases h11 : 11 ≤ z
     · have e1 : Hid (ze8 z = 0) := by rw [Hid, ze8, ho, if_neg (by simp), if_pos (by omega)]
       clear ho
       go_enter Tryz.func128, Tryz.ntmps128
       go_wp2_with fail
       go_ret3
       exact ⟨by rw [e1.out, e2.out.1, e2.out.2]; rfl, rfl⟩
     · have e1 : Hid (ze8 z = z) := by rw [Hid, ze8, ho, if_neg (by simp), if_neg (by omega)]
       clear ho
       go_enter Tryz.func128, Tryz.ntmps128
       go_wp2_with fail
       go_ret3
       exact ⟨by rw [e1.out, e2.out.1, e2.out.2]; rfl, rfl⟩
def zbg (o : List Int) (z : Int) : Bool := if zdg z then (gt o 1 == zfr z) && (gt o 13 == 0) else if z = 8 then gt o 13 != 2 else true
set_option maxRecDepth 100000 in
theorem zld (o : List Int) (z : Int) (ho : o.length = 18) (w : World) :
 Calls Tryz.prog 93 #[.agg (cellsOf o), .int .i64 z] w fun e w' => e = .returned (.bool (zbg o z)) ∧ Grow w w' := by
 by_cases hz : zdg z = true
 · have hb : Hid (zbg o z = ((gt o 1 == zfr z) && (gt o 13 == 0))) := by rw [Hid, zbg, if_pos hz]
   by_cases h1 : gt o 1 = zfr z
   · go_enter Tryz.func93, Tryz.ntmps93
     go_wp2_with (go_at_call 128; refine (ze9 _ _).mono ?_; rintro e w' ⟨rfl, rfl⟩)
     go_ret
     exact ⟨zao (by rw [hb.out]; simp [h1]), grI⟩
   · go_enter Tryz.func93, Tryz.ntmps93
     go_wp2_with (go_at_call 128; refine (ze9 _ _).mono ?_; rintro e w' ⟨rfl, rfl⟩)
     go_ret
     exact ⟨zao (by rw [hb.out]; simp [h1]), grI⟩
 · have hz' : zdg z = false := by simpa using hz
   have hb : Hid (zbg o z = if z = 8 then gt o 13 != 2 else true) := by rw [Hid, zbg, if_neg (by simp [hz'])]
   clear hz
   by_cases h8 : z = 8
   · go_enter Tryz.func93, Tryz.ntmps93
     go_wp2_with (go_at_call 128; refine (ze9 _ _).mono ?_; rintro e w' ⟨rfl, rfl⟩)
     go_ret
     exact ⟨zao (by have h := hb.out; rw [if_pos h8] at h; rw [h]), grI⟩
   · go_enter Tryz.func93, Tryz.ntmps93
     go_wp2_with (go_at_call 128; refine (ze9 _ _).mono ?_; rintro e w' ⟨rfl, rfl⟩)
     go_ret
     exact ⟨zao (by have h := hb.out; rw [if_neg h8] at h; rw [h]), grI⟩
end Go.Proofs.YthfalocligkamaaGreatDoor
namespace Go.Proofs.YthfalocligkamaaGreatDoor
open Go Go.RowKit
def zds (l : List Bool) : Array Value := (l.map Value.bool).toArray
def gtb (l : List Bool) (i : Nat) : Bool := l.getD i false
@[go_sem] theorem z6o (l : List Bool) : (zds l).size = l.length := by simp [zds]
@[go_sem] theorem z9r (l : List Bool) (i : Nat) (h : i < l.length) : (zds l)[i]? = some (.bool (gtb l i)) := by simp [zds, gtb, h]
@[go_sem] theorem zzl (l : List Bool) (i : Nat) (h : i < (zds l).size) : (zds l)[i]'h = .bool (gtb l i) := by
 have h' : i < l.length := by simpa [zds] using h
 simp [zds, gtb, h']
@[go_sem] theorem z9s (l : List Bool) (i : Nat) (x : Bool) : (zds l).setIfInBounds i (.bool x) = zds (l.set i x) := by simp [zds, List.map_set]
@[go_sem] theorem z93 (w : World) (l c : Int) (h0 : 0 ≤ l) (hlc : l = c) (h1 : c ≤ 1099511627776) : (Instr.makeSlice 132 (.int .i64 l) (.int .i64 c)).run Tryz.prog w = .ok (.slice (some ⟨w.heap.size, 0, none⟩) c.toNat c.toNat) (w.alloc (.cells (zds (List.replicate c.toNat false)) 4)) := by
 subst hlc
 have hb : (Tryz.t4.bytes : Int) * l ≤ 281474976710656 := by
  rw [show (Tryz.t4.bytes : Int) = 1 by kernel_rfl]; omega
 have h := run_make (P := Tryz.prog) w 132 4 Tryz.t4 (.bool false) Tryz.underlying132 (by kernel_rfl) (by kernel_rfl) .i64 .i64 l l h0 (Int.le_refl _) hb (by omega)
 have hz : madeCells #[.bool false] l.toNat = zds (List.replicate l.toNat false) := by
  apply Array.ext'
  rw [toList_madeCells_one]
  simp [zds]
 rw [h, show Tryz.t4.size = 1 by kernel_rfl, Nat.mul_one]
 simp only [Value.cells, hz]
def zhs (S : St) (z : Nat) (p : List Bool × Nat) (id : Int) : Option (List Bool × Nat) :=
 if id < 0 ∨ (S.objs.length : Int) ≤ id then none
 else if gtb p.1 id.toNat = true then none
 else if ¬ gt (rowAt S.objs id.toNat) 3 = z then none
 else if zbg (rowAt S.objs id.toNat) z = false then none
 else some (p.1.set id.toNat true, p.2 + 1)
def zhr (S : St) (z : Nat) (p : List Bool × Nat) (l : List Int) : Option (List Bool × Nat) := l.foldlM (zhs S z) p
def zTo (S : St) (k : Nat) : Option (List Bool × Nat) := (List.range k).foldlM (fun p z => zhr S z p (S.list z)) (List.replicate S.objs.length false, 0)
def zdp (S : St) : Bool := match zTo S 11 with
 | none => false
 | some p => (p.2 : Int) == S.objs.length
theorem zfs (c : List Int) (k : Nat) (h : k < c.length) : c.take (k + 1) = c.take k ++ [gt c k] := by
 rw [List.take_add_one, List.getElem?_eq_getElem h]; simp [gt, h]
theorem zuj {S : St} {z : Nat} {p0 p : List Bool × Nat} {l : List Int} {k : Nat} (hk : k < l.length) (h : zhr S z p0 (l.take k) = some p) : zhr S z p0 (l.take (k + 1)) = zhs S z p (gt l k) := by
 unfold zhr at *
 rw [zfs l k hk, List.foldlM_append, h]
 simp
theorem zui {S : St} {z : Nat} {p0 : List Bool × Nat} {l : List Int} {k : Nat} (h : zhr S z p0 (l.take k) = none) : zhr S z p0 l = none := by
 unfold zhr at *
 rw [← List.take_append_drop k l, List.foldlM_append, h]
 rfl
theorem ziv {S : St} {k : Nat} {p : List Bool × Nat} (h : zTo S k = some p) : zTo S (k + 1) = zhr S k p (S.list k) := by
 unfold zTo at *
 rw [List.range_succ, List.foldlM_append, h]
 simp
theorem zre {S : St} {k n : Nat} (hk : k ≤ n) (h : zTo S k = none) : zTo S n = none := by
 induction n with
 | zero => rw [show k = 0 by omega] at h; exact h
 | succ n ih =>
   by_cases e : k = n + 1
   · subst e; exact h
   · have := ih (by omega)
     unfold zTo at *
     rw [List.range_succ, List.foldlM_append, this]; rfl
set_option maxRecDepth 100000 in
set_option maxHeartbeats 4000000 in
theorem zzg (S : St) (V : SV) (w : World) (R : RepSt w V S) (hS : Small S) :
 Calls Tryz.prog 56 #[.agg (stA V S.num)] w fun e w' => e = .returned (.bool (zdp S)) ∧ Grow w w' := by
 have hN := R.objs.len
 have hSO := hS.objs
 have hLN := fun z hz => (R.list z hz).len
 have hm0 : 0 ≤ (S.objs.length : Int) := by omega
 have hm1 : (S.objs.length : Int) ≤ 1099511627776 := by omega
 go_enter Tryz.func56, Tryz.ntmps56
 go_wp2_with fail
 go_loopw [4, 16] (fun m i wr => ∃ (z : Nat) (p : List Bool × Nat) (x : Ext), z ≤ 11 ∧ i = .int .i64 z ∧ m = .int .i64 p.2 ∧ Hid (zTo S z = some p) ∧ p.1.length = S.objs.length ∧ p.2 ≤ z * 1048576 ∧
  wr = ((w.alloc (.cells (stA V S.num) 29)).alloc (.cells (zds p.1) 4)).plus x) (fun _ i _ => 11 - (intOf i).toNat)
 case atStart => exact ⟨0, (List.replicate S.objs.length false, 0), Ext.none, by omega, rfl, rfl, rfl, by simp, by omega, by rw [zjr]⟩
 case round =>
  obtain ⟨z, p, x, hz, rfl, rfl, hto, hpl, hpm, rfl⟩ := hrel
  by_cases hzt : z < 11
  · have hlz := hLN z hzt
    have hsz := hS.list z hzt
    go_wp2_with fail
    rw [show decide ((z : Int) < 11) = true by simp; omega]
    go_loopw [4, 22] (fun m i wr => ∃ (k : Nat) (q : List Bool × Nat) (y : Ext), k ≤ (S.list z).length ∧ i = .int .i64 k ∧ m = .int .i64 q.2 ∧ Hid (zhr S z p ((S.list z).take k) = some q) ∧ q.1.length = S.objs.length ∧ q.2 ≤ z * 1048576 + k ∧
     wr = ((w.alloc (.cells (stA V S.num) 29)).alloc (.cells (zds q.1) 4)).plus y) (fun _ i _ => (S.list z).length - (intOf i).toNat)
    case atStart => exact ⟨0, p, x, Nat.zero_le _, rfl, rfl, (by rw [Hid, List.take_zero]; rfl), hpl, Nat.le_trans hpm (Nat.le_add_right _ _), rfl⟩
    case round =>
     obtain ⟨k, q, y, hk, rfl, rfl, hzl, hql, hqm, rfl⟩ := hrel
     by_cases hkt : k < (S.list z).length
     · obtain ⟨hlb, hlc⟩ := (R.list z hzt).at k hkt
       have hst := zuj hkt hzl.out
       have HST := Lib.hid hst
       have hnone : zhs S z q (gt (S.list z) k) = none → zdp S = false := fun h => by
        have h1 := zui (hst.trans h)
        have h2 := ziv hto.out
        have h3 := zre (n := 11) (by omega) (h2.trans h1)
        rw [zdp, h3]
       have HNO := Lib.hid hnone
       clear hst hnone
       generalize hid : gt (S.list z) k = id at *
       have HID := Lib.hid hid
       clear hid
       by_cases h0 : id < 0
       · have hbad : Hid (zdp S = false) := HNO.out (by rw [zhs, if_pos (by omega)])
         go_wp2_with fail
         go_ret
         exact ⟨zao hbad.out.symm, grI⟩
       · by_cases hn : (S.objs.length : Int) ≤ id
         · have hbad : Hid (zdp S = false) := HNO.out (by rw [zhs, if_pos (by omega)])
           go_wp2_with fail
           go_ret
           exact ⟨zao hbad.out.symm, grI⟩
         · obtain ⟨d, rfl⟩ := Int.eq_ofNat_of_zero_le (show 0 ≤ id by omega)
           have hd : d < S.objs.length := by omega
           by_cases hseen : gtb q.1 d = true
           · have hbad : Hid (zdp S = false) := HNO.out (by rw [zhs, if_neg (by omega), if_pos (by simpa using hseen)])
             go_wp2_with fail
             go_ret
             exact ⟨zao hbad.out.symm, grI⟩
           · have hseen' : gtb q.1 d = false := by simpa using hseen
             clear hseen
             obtain ⟨hob, how, hosz, hosub, hocell⟩ := R.objs.at (by omega) d hd
             clear hocell
             generalize hrow : rowAt S.objs d = row at *
             have HROW := Lib.hid hrow
             clear hrow
             by_cases hzo : gt row 3 = z
             · by_cases hstd : zbg row z = true
               · have hnew : Hid (zhr S z p ((S.list z).take (k + 1)) = some (q.1.set d true, q.2 + 1)) := by
                  rw [Hid, HST.out, zhs, if_neg (by omega), if_neg (by rw [Int.toNat_natCast]; simp [hseen']), Int.toNat_natCast, HROW.out, if_neg (by simp [hzo]), if_neg (by simp [hstd])]
                 go_wp2_with (go_at_call 93; refine (zld _ _ how _).mono ?_; rintro e w' ⟨rfl, nx, rfl⟩)
                 go_roundw
                 case rel => exact ⟨k + 1, (q.1.set d true, q.2 + 1), _, by omega, by go_num, by go_num, hnew, by simp [hql], by omega, by rw [zf0, zad]⟩
                 case measure => simp [intOf]; omega
               · have hstd' : zbg row z = false := by simpa using hstd
                 have hbad : Hid (zdp S = false) := HNO.out (by
                  rw [zhs, if_neg (by omega), if_neg (by rw [Int.toNat_natCast]; simp [hseen']), Int.toNat_natCast, HROW.out, if_neg (by simp [hzo]), if_pos hstd'])
                 clear hstd
                 go_wp2_with (go_at_call 93; refine (zld _ _ how _).mono ?_; rintro e w' ⟨rfl, nx, rfl⟩)
                 go_ret
                 exact ⟨zao hbad.out.symm, grI⟩
             · have hbad : Hid (zdp S = false) := HNO.out (by
                rw [zhs, if_neg (by omega), if_neg (by rw [Int.toNat_natCast]; simp [hseen']), Int.toNat_natCast, HROW.out, if_pos hzo])
               go_wp2_with fail
               go_ret
               exact ⟨zao hbad.out.symm, grI⟩
     · have hzn : Hid (zTo S (z + 1) = some q) := by
        have h1 := hzl.out
        rw [List.take_of_length_le (by omega)] at h1
        rw [Hid, ziv hto.out, h1]
       go_wp2_with fail
       go_roundw
       case rel => exact ⟨z + 1, q, _, by omega, by go_num, rfl, hzn, hql, by omega, rfl⟩
       case measure => simp [intOf]; omega
  · have hz2 : Hid (zdp S = ((p.2 : Int) == S.objs.length)) := by rw [Hid, zdp, ← show z = 11 by omega, hto.out]
    go_wp2_with fail
    go_ret
    exact ⟨zao hz2.out.symm, grI⟩
end Go.Proofs.YthfalocligkamaaGreatDoor
namespace Go.Proofs.YthfalocligkamaaGreatDoor
open Go Go.RowKit Go.Shelf Go.Lib
theorem zip {w : World} {b i : Nat} {c : List Int} (h : w.blk b = cellsOf c) (hi : i < c.length) : w.cell? ⟨b, i, none⟩ = some (I (gt c i)) := by
 have h1 : (w.blk b)[i]? = some (I (gt c i)) := by rw [h, za5 _ _ hi]
 unfold World.blk at h1
 cases ho : w.heap[b]? with
 | none => simp [ho] at h1
 | some o =>
   cases o <;> simp only [ho] at h1 <;> try (simp at h1; done)
   simp only [World.cell?, ho]
   exact h1
def restingL : List (Fin 18) := [4, 5, 6, 7, 8, 9, 10, 11, 12]
def yik (f : Fin 18) : Value := .int .i64 (f.val : Int)
theorem zpl (o : List Int) (ho : o.length = 18) (b : Nat) (w : World) (hb : b < w.heap.size) (hc : w.blk b = cellsOf o) :
 PredAt Tryz.prog 96 #[.pointer (some ⟨b, 0, none⟩)] yik (fun f => gt o f.val != 0) w := fun W f hbl => by
 have hcell : W.cell? ⟨b, f.val, none⟩ = some (I (gt o f.val)) := by
  rw [World.cell?_of_block (hbl.block b hb)]
  exact zip hc (by omega)
 have hf := f.isLt
 show Calls Tryz.prog 96 #[.int .i64 (f.val : Int), .pointer (some ⟨b, 0, none⟩)] W _
 go_enter Tryz.func96, Tryz.ntmps96
 go_wp2
 all_goals (go_ret; exact ⟨rfl, 0, rfl⟩)
def zbf (o : List Int) : Bool := !(gt o 3 != 8 && restingL.any fun f => gt o f.val != 0) && !(decide (gt o 3 < 8) && gt o 2 != gt o 1) && (gt o 3 == 9 || gt o 16 == 0)
set_option maxRecDepth 100000 in
set_option maxHeartbeats 2000000 in
theorem zsk (o : List Int) (ho : o.length = 18) (w : World) (G : Glob w) :
 Calls Tryz.prog 59 #[.agg (cellsOf o)] w fun e w' => e = .returned (.bool (zbf o)) ∧ Grow w w' := by
 have eg : ∀ args w, (callFunc 96 args).run Tryz.prog w = .ok (.enter 96 args) w := enters_of Tryz.func96 (by kernel_rfl) rfl
 have hcon := AnyE.slices_ContainsFunc Tryz.hasInts yik (fun f => gt o f.val != 0) 96 #[.pointer (some ⟨w.heap.size, 0, none⟩)] eg 0 0 9 9 restingL (w.alloc (.cells (cellsOf o) 57))
  (zpl o ho _ _ (by rw [zaa]; omega) (by rw [zeq, if_pos rfl])) (by decide) (by decide) (fun j hj => by
    have hj9 : j < 9 := hj
    rw [zbu, if_neg (by have := G.size; omega), Nat.zero_add, zip G.resting (by exact hj)]
    have : j = 0 ∨ j = 1 ∨ j = 2 ∨ j = 3 ∨ j = 4 ∨ j = 5 ∨ j = 6 ∨ j = 7 ∨ j = 8 := by omega
    rcases this with rfl | rfl | rfl | rfl | rfl | rfl | rfl | rfl | rfl <;> rfl)
 change Calls Tryz.prog 95 _ _ _ at hcon
 rw [show restingL.take 9 = restingL from rfl] at hcon
 have HB : Hid (zbf o = (!(gt o 3 != 8 && restingL.any fun f => gt o f.val != 0) && !(decide (gt o 3 < 8) && gt o 2 != gt o 1) && (gt o 3 == 9 || gt o 16 == 0))) := rfl
 generalize (restingL.any fun f => gt o f.val != 0) = r at hcon HB
 have HCON := Lib.hid hcon
 clear hcon
 by_cases h8 : gt o 3 = 8
 · go_enter Tryz.func59, Tryz.ntmps59
   go_wp2_with fail
   all_goals go_ret
   all_goals exact ⟨zao (by rw [HB.out]; simp_all), grI⟩
 · go_enter Tryz.func59, Tryz.ntmps59
   go_wp2_with (go_at_call 95; refine HCON.out.mono ?_; rintro e w' ⟨rfl, q, rfl⟩)
   all_goals go_ret
   all_goals exact ⟨zao (by rw [HB.out]; cases r <;> simp_all <;> omega), grI⟩
end Go.Proofs.YthfalocligkamaaGreatDoor
namespace Go.Proofs.YthfalocligkamaaGreatDoor
open Go Go.RowKit
def zif (S : St) (most : Int) (k : Nat) : Bool := (List.range k).any fun z => decide (most + 10 < (S.list z).length)
def zpe (S : St) (most : Int) : Bool := decide (most < S.objs.length) || zif S most 11
set_option maxRecDepth 100000 in
theorem z2j (S : St) (V : SV) (most : Int) (hm : 0 ≤ most ∧ most ≤ 1000) (w : World) (R : RepSt w V S) :
 Calls Tryz.prog 7 #[.agg (stA V S.num), .int .i64 most] w fun e w' => e = .returned (.bool (zpe S most)) ∧ Grow w w' := by
 have hN := R.objs.len
 have hL := fun z hz => (R.list z hz).len
 by_cases h0 : most < S.objs.length
 · go_enter Tryz.func7, Tryz.ntmps7
   go_wp2_with fail
   go_ret
   exact ⟨zao (by simp [zpe, h0]), grI⟩
 go_enter Tryz.func7, Tryz.ntmps7
 go_wp2_with fail
 go_loopw [6, 14] (fun _ i wr => ∃ k : Nat, k ≤ 11 ∧ i = .int .i64 k ∧ Hid (zif S most k = false) ∧ Grow w wr) (fun _ i _ => 11 - (intOf i).toNat)
 case atStart => exact ⟨0, by omega, rfl, rfl, grI⟩
 case round =>
  obtain ⟨k, hk, rfl, hno, x, rfl⟩ := hrel
  by_cases hlt : k < 11
  · have hlk := hL k hlt
    by_cases hbig : most + 10 < (S.list k).length
    · go_wp2_with fail
      go_ret
      exact ⟨zao (by rw [zpe, Bool.or_eq_true_iff.2]; right; rw [zif, List.any_eq_true]; exact ⟨k, List.mem_range.2 hlt, by simpa using hbig⟩), grI⟩
    · have hs : Hid (zif S most (k + 1) = false) := by
       have := hno.out
       rw [zif] at this
       rw [Hid, zif, List.range_succ, List.any_append, this]; simp; omega
      go_wp2_with fail
      go_roundw
      case rel => exact ⟨k + 1, by omega, by go_num, hs, grI⟩
      case measure => simp [intOf]; omega
  · have hk11 : Hid (zif S most 11 = false) := by rw [Hid, ← show k = 11 by omega]; exact hno.out
    go_wp2_with fail
    go_ret
    exact ⟨zao (by rw [zpe, hk11.out]; simp; omega), grI⟩
end Go.Proofs.YthfalocligkamaaGreatDoor
namespace Go.Proofs.YthfalocligkamaaGreatDoor
open Go Go.RowKit Go.Shelf Go.Lib
theorem Glob.below {w W : World} (h : Glob w) (hb : Below w.heap.size w W) : Glob W := h.grow (Grow.of_below hb)
structure Row18 where
 l : List Int
 h : l.length = 18
instance : Inhabited Row18 := ⟨⟨List.replicate 18 0, rfl⟩⟩
def z94 (l : List Int) : Row18 := if h : l.length = 18 then ⟨l, h⟩ else default
theorem z5t {l : List Int} (h : l.length = 18) : (z94 l).l = l := by rw [z94, dif_pos h]
def z0y (r : Row18) : List Value := r.l.map I
theorem zs5 (w : World) (G : Glob w) : PredBelow Tryz.prog 58 #[] (fun r => .agg (z0y r).toArray) (fun r => !zbf r.l) w := fun W r hb => by
 have GW := Lib.hid (G.below hb)
 have hl := r.h
 show Calls Tryz.prog 58 #[.agg (cellsOf r.l)] W _
 have key : Calls Tryz.prog 58 #[.agg (cellsOf r.l)] W fun e w' => e = .returned (.bool (!zbf r.l)) ∧ Grow W w' := by
  go_enter Tryz.func58, Tryz.ntmps58
  go_wp2_with (go_at_call 59; refine (zsk _ hl _ (GW.out.grow grI)).mono ?_; rintro e w' ⟨rfl, nx, rfl⟩)
  go_ret
  exact ⟨rfl, grI⟩
 refine key.mono ?_
 rintro e w' ⟨he, hg⟩
 exact ⟨he, hb.trans (hg.below.mono hb.size)⟩
def zfm (S : St) : Bool := S.objs.any fun o => !zbf o
def checkN (S : St) : Int := if 400 < S.objs.length then 5 else if zbp S = false then 1 else if zdp S = false then 12 else if zfm S = true then 2 else 0
def errV (n : Int) : Value := if n = 0 then .nilIface else .iface 66 (.int .i64 n)
theorem znt {l : List (List Int)} {r : List Int} (h : r ∈ l) : ∃ i, i < l.length ∧ rowAt l i = r := by
 obtain ⟨i, hi, rfl⟩ := List.mem_iff_getElem.1 h
 exact ⟨i, hi, by simp [rowAt, hi]⟩
theorem zls (s : Sl) (hn : s.n = 0) (fv : Value) (w : World) :
 Calls Tryz.prog 94 #[s.val, fv] w fun e w' => e = .returned (.int .i64 (-1)) ∧ Grow w w' := by
 go_enter Tryz.func94, Tryz.ntmps94
 go_wp2_with fail
 go_loopw [8] (fun i wr => i = .int .i64 0 ∧ Grow w wr) (fun _ _ => 0)
 case atStart => exact ⟨rfl, grI⟩
 case round =>
  obtain ⟨rfl, x, rfl⟩ := hrel
  go_wp2_with fail
  go_ret
  exact ⟨rfl, grI⟩
theorem zlq (s : Sl) (hn : s.n = 0) (fv : Value) (w : World) :
 Calls Tryz.prog 57 #[s.val, fv] w fun e w' => e = .returned (.bool false) ∧ Grow w w' := by
 go_enter Tryz.func57, Tryz.ntmps57
 go_wp2_with (go_at_call 94; refine (zls _ hn _ _).mono ?_; rintro e w' ⟨rfl, nx, rfl⟩)
 go_ret
 exact ⟨rfl, grI⟩
theorem zo2 (S : St) (V : SV) (w : World) (R : RepSt w V S) (hS : Small S) (G : Glob w) :
 Calls Tryz.prog 57 #[V.objs.val, .func (.func 58) #[] #[]] w fun e w' => e = .returned (.bool (zfm S)) ∧ Grow w w' := by
 have eg : ∀ args w, (callFunc 58 args).run Tryz.prog w = .ok (.enter 58 args) w := enters_of Tryz.func58 (by kernel_rfl) rfl
 have hz : (S.objs.map z94).any (fun r => !zbf r.l) = zfm S := by
  rw [List.any_map, zfm]
  rw [Bool.eq_iff_iff, List.any_eq_true, List.any_eq_true]
  refine exists_congr fun o => and_congr_right fun ho => ?_
  obtain ⟨i, hi, rfl⟩ := znt ho
  rw [Function.comp, z5t (R.objs.wid i hi)]
 by_cases hn : S.objs.length = 0
 · refine (zlq V.objs (by rw [R.objs.len]; exact hn) _ w).mono ?_
   rintro e w' ⟨he, hg⟩
   exact ⟨by rw [he, zfm, List.eq_nil_of_length_eq_zero hn]; rfl, hg⟩
 · have hs := V.objs.mk_of (by rw [R.objs.len]; omega)
   rw [hs]
   have hcon := AnyQ.slices_ContainsFunc Tryz.hasObjs 18 (fun w => by kernel_rfl) (fun w => by kernel_rfl) z0y (fun r => by rw [z0y, List.length_map, r.h]) (fun r => !zbf r.l) 58 #[] eg V.objs.b V.objs.o V.objs.n V.objs.c (S.objs.map z94) w (zs5 w G)
    (by rw [List.length_map, R.objs.len]; omega) (by rw [R.objs.len]; have := hS.objs; omega) (R.objs.at (by omega) 0 (by omega)).1 (fun j hj i v hv => by
      rw [List.length_map] at hj
      have hj' : j < (S.objs.map z94).length := by rw [List.length_map]; exact hj
      rw [getElem!_pos (S.objs.map z94) j hj', List.getElem_map, z0y] at hv
      have e : S.objs[j] = rowAt S.objs j := by simp [rowAt, hj]
      rw [e, z5t (R.objs.wid j hj)] at hv
      have hi : i < 18 := by
       have := (List.getElem?_eq_some_iff.1 hv).1
       rw [List.length_map, R.objs.wid j hj] at this; exact this
      rw [R.objs.cell j i hj hi, ← hv, List.getElem?_map, List.getElem?_eq_getElem (by rw [R.objs.wid j hj]; exact hi)]
      simp [gt, R.objs.wid j hj, hi])
   refine hcon.mono ?_
   rintro e w' ⟨he, hb⟩
   refine ⟨?_, Grow.of_below hb⟩
   rw [he, List.take_of_length_le (by rw [List.length_map, R.objs.len]; omega), hz]
set_option maxRecDepth 100000 in
set_option maxHeartbeats 2000000 in
theorem zgz (S : St) (V : SV) (w : World) (R : RepSt w V S) (hS : Small S) (G : Glob w) :
 Calls Tryz.prog 32 #[.agg (stA V S.num)] w fun e w' => e = .returned (errV (checkN S)) ∧ Grow w w' := by
 have hN := R.objs.len
 have hSO := hS.objs
 have HR := Lib.hid R
 have HG := Lib.hid G
 have HS := Lib.hid hS
 clear R G hS
 by_cases h400 : 400 < S.objs.length
 · have hv : Hid (errV (checkN S) = .iface 66 (.int .i64 5)) := by rw [Hid, checkN, if_pos h400]; rfl
   go_enter Tryz.func32, Tryz.ntmps32
   go_wp2_with fail
   go_ret
   exact ⟨by rw [hv.out]; rfl, grI⟩
 · have HV : Hid (errV (checkN S) = if zbp S = false then .iface 66 (.int .i64 1) else if zdp S = false then .iface 66 (.int .i64 12) else if zfm S = true then .iface 66 (.int .i64 2) else .nilIface) := by
    rw [Hid, checkN, if_neg h400]
    (repeat' split) <;> rfl
   go_enter Tryz.func32, Tryz.ntmps32
   go_wp2_with (first | (go_at_call 55; refine (zs7 S V _ (HR.out.grow grI) HS.out (HG.out.grow grI)).mono ?_; rintro e w' ⟨rfl, nx, rfl⟩) | (go_at_call 56; refine (zzg S V _ (HR.out.grow grI) HS.out).mono ?_; rintro e w' ⟨rfl, nx, rfl⟩) | (go_at_call 57; refine (zo2 S V _ (HR.out.grow grI) HS.out (HG.out.grow grI)).mono ?_; rintro e w' ⟨rfl, nx, rfl⟩))
   all_goals go_ret
   all_goals exact ⟨by rw [HV.out]; simp_all, grI⟩
end Go.Proofs.YthfalocligkamaaGreatDoor
namespace Go.Proofs.YthfalocligkamaaGreatDoor
open Go Go.RowKit
def zsr (S : St) (x : Int) : Bool := decide (0 ≤ x) && decide (x < S.objs.length)
def zjk (S : St) (k : Nat) : Bool := (List.range k).all fun z => (S.list z).all (zsr S)
def zcg (S : St) (id : Int) (k : Nat) : Nat := ((List.range k).map fun z => (S.list z).count id).sum
def zhc (S : St) (id : Int) (o : List Int) (k : Nat) : Bool := (List.range k).all fun z => (S.list z).all fun x => x != id || (z : Int) == gt o 3
def zj0 (o : List Int) : Bool := !(decide (gt o 3 < 8) && (gt o 1 != (gt o 3).tmod 2 || gt o 13 != 0) || gt o 3 == 8 && gt o 13 == 2)
def zep (S : St) (i : Nat) : Bool := zhc S i (rowAt S.objs i) 11 && zcg S i 11 == 1 && zj0 (rowAt S.objs i)
def zb4 (S : St) : Bool := zjk S 11 && (List.range S.objs.length).all (zep S)
theorem zss (S : St) (k : Nat) : zjk S (k + 1) = (zjk S k && (S.list k).all (zsr S)) := by simp [zjk, List.range_succ]
theorem zwv (S : St) (z n k : Nat) (hz : z < n) (hk : k < (S.list z).length) (h : zsr S (gt (S.list z) k) = false) : zjk S n = false := by
 rw [zjk, List.all_eq_false]
 refine ⟨z, List.mem_range.2 hz, ?_⟩
 rw [Bool.not_eq_true, List.all_eq_false]
 exact ⟨gt (S.list z) k, by rw [zcw _ _ hk]; exact List.getElem_mem hk, by simp [h]⟩
theorem zgu (f : Int → Bool) (l : List Int) (k : Nat) (hk : k < l.length) : (l.take (k + 1)).all f = ((l.take k).all f && f (gt l k)) := by
 rw [zfs l k hk, List.all_append]; simp
theorem zb0 (S : St) (id : Int) (k : Nat) : zcg S id (k + 1) = zcg S id k + (S.list k).count id := by simp [zcg, List.range_succ]
theorem zqi (S : St) (hS : Small S) (id : Int) : ∀ k, k ≤ 11 → zcg S id k ≤ k * 1048576
 | 0, _ => by simp [zcg]
 | k + 1, h => by
   have h1 := zqi S hS id k (by omega)
   have h2 := hS.list k (by omega)
   have h3 : (S.list k).count id ≤ (S.list k).length := List.count_le_length
   rw [zb0]; omega
theorem zs4 (S : St) (id : Int) (o : List Int) (k : Nat) : zhc S id o (k + 1) = (zhc S id o k && (S.list k).all fun x => x != id || (k : Int) == gt o 3) := by simp [zhc, List.range_succ]
theorem zxf (S : St) (id : Int) (o : List Int) (z n k : Nat) (hz : z < n) (hk : k < (S.list z).length) (h : gt (S.list z) k = id) (h3 : ¬ (z : Int) = gt o 3) : zhc S id o n = false := by
 rw [zhc, List.all_eq_false]
 refine ⟨z, List.mem_range.2 hz, ?_⟩
 rw [Bool.not_eq_true, List.all_eq_false]
 exact ⟨gt (S.list z) k, by rw [zcw _ _ hk]; exact List.getElem_mem hk, by simp [h, h3]⟩
theorem zi5 (l : List Int) (k : Nat) (hk : k < l.length) (x : Int) : (l.take (k + 1)).count x = (l.take k).count x + if gt l k = x then 1 else 0 := by
 rw [zfs l k hk, List.count_append, List.count_singleton]
 congr 1
 by_cases e : gt l k = x
 · rw [if_pos e, if_pos (by simp [e])]
 · rw [if_neg e, if_neg (by simp [e])]
end Go.Proofs.YthfalocligkamaaGreatDoor
namespace Go.Proofs.YthfalocligkamaaGreatDoor
open Go Go.RowKit
def z4t (S : St) (z : Nat) (x : Int) : Prop := 0 ≤ x ∧ x < S.objs.length ∧ gt (rowAt S.objs x.toNat) 3 = z ∧ zbg (rowAt S.objs x.toNat) z = true
structure Zon (S : St) : Prop where
 ok : ∀ z, z < 11 → ∀ x ∈ S.list z, z4t S z x
 once : ∀ id : Nat, id < S.objs.length → zcg S id 11 = 1
def zf6 (S : St) (k : Nat) : List Int := (List.range k).flatMap S.list
theorem zft (S : St) (k : Nat) : zf6 S (k + 1) = zf6 S k ++ S.list k := by simp [zf6, List.range_succ]
theorem zg8 (S : St) (k : Nat) (x : Int) : x ∈ zf6 S k ↔ ∃ z, z < k ∧ x ∈ S.list z := by simp [zf6]
theorem zfh (S : St) (x : Int) : ∀ k, zcg S x k = (zf6 S k).count x
 | 0 => rfl
 | k + 1 => by rw [zb0, zft, List.count_append, zfh S x k]
structure Seen (S : St) (V : List Int) (p : List Bool × Nat) : Prop where
 many : p.2 = V.length
 len : p.1.length = S.objs.length
 nodup : V.Nodup
 mem : ∀ i : Nat, gtb p.1 i = true ↔ (i : Int) ∈ V
theorem z65 (l : List Bool) (i j : Nat) (h : i < l.length) : gtb (l.set i true) j = if i = j then true else gtb l j := by
 unfold gtb List.getD
 rw [List.getElem?_set]
 by_cases e : i = j
 · subst e; rw [if_pos rfl, if_pos h, if_pos rfl]; rfl
 · rw [if_neg e, if_neg e]
theorem Seen.push {S : St} {V : List Int} {p : List Bool × Nat} {x : Int} (h : Seen S V p) (h0 : 0 ≤ x) (h1 : x < S.objs.length) (hx : x ∉ V) : Seen S (V ++ [x]) (p.1.set x.toNat true, p.2 + 1) := by
 have hl := h.len
 refine ⟨by simp [h.many], by simp [hl], ?_, fun i => ?_⟩
 · rw [List.nodup_append]
   refine ⟨h.nodup, by simp, ?_⟩
   intro a ha b hb
   rw [List.mem_singleton] at hb
   subst hb
   intro e; subst e; exact hx ha
 · rw [z65 _ _ _ (by omega), List.mem_append, List.mem_singleton, ← h.mem i]
   by_cases e : x.toNat = i
   · rw [if_pos e]; simp; right; omega
   · rw [if_neg e]
     constructor
     · intro h; exact Or.inl h
     · rintro (h | h)
       · exact h
       · omega
theorem z4s {S : St} {V : List Int} {p : List Bool × Nat} {z : Nat} {x : Int} (h : Seen S V p) (hok : z4t S z x) (hx : x ∉ V) : zhs S z p x = some (p.1.set x.toNat true, p.2 + 1) := by
 obtain ⟨a, b, c, d⟩ := hok
 rw [zhs, if_neg (by omega), if_neg, if_neg (by simp [c]), if_neg (by simp [d])]
 rw [h.mem, Int.toNat_of_nonneg a]; exact hx
theorem zzh {S : St} {V : List Int} {p q : List Bool × Nat} {z : Nat} {x : Int} (h : Seen S V p) (hs : zhs S z p x = some q) : z4t S z x ∧ x ∉ V ∧ q = (p.1.set x.toNat true, p.2 + 1) := by
 unfold zhs at hs
 by_cases c1 : x < 0 ∨ (S.objs.length : Int) ≤ x
 · rw [if_pos c1] at hs; cases hs
 rw [if_neg c1] at hs
 by_cases c2 : gtb p.1 x.toNat = true
 · rw [if_pos c2] at hs; cases hs
 rw [if_neg c2] at hs
 by_cases c3 : ¬ gt (rowAt S.objs x.toNat) 3 = z
 · rw [if_pos c3] at hs; cases hs
 rw [if_neg c3] at hs
 by_cases c4 : zbg (rowAt S.objs x.toNat) z = false
 · rw [if_pos c4] at hs; cases hs
 rw [if_neg c4] at hs
 refine ⟨⟨by omega, by omega, by simpa using c3, by simpa using c4⟩, ?_, (Option.some.inj hs).symm⟩
 intro hx
 apply c2
 rw [h.mem, Int.toNat_of_nonneg (by omega)]; exact hx
theorem zrf {S : St} {z : Nat} : ∀ (l V : List Int) (p : List Bool × Nat), Seen S V p → (∀ x ∈ l, z4t S z x) → (V ++ l).Nodup → ∃ q, zhr S z p l = some q ∧ Seen S (V ++ l) q
 | [], V, p, h, _, _ => ⟨p, rfl, by simpa using h⟩
 | x :: l, V, p, h, hok, hn => by
   have hx : x ∉ V := by
    rw [List.nodup_append] at hn
    intro hm
    exact hn.2.2 x hm x (by simp) rfl
   have hx0 := hok x (by simp)
   obtain ⟨q, e, hq⟩ := zrf l (V ++ [x]) _ (h.push hx0.1 hx0.2.1 hx) (fun y hy => hok y (by simp [hy])) (by simpa using hn)
   refine ⟨q, ?_, by simpa using hq⟩
   unfold zhr at *
   rw [List.foldlM_cons, z4s h hx0 hx]
   exact e
theorem zoj {S : St} {z : Nat} : ∀ (l V : List Int) (p q : List Bool × Nat), Seen S V p → zhr S z p l = some q → (∀ x ∈ l, z4t S z x) ∧ Seen S (V ++ l) q
 | [], V, p, q, h, e => by
   have : p = q := Option.some.inj e
   subst this
   exact ⟨fun x hx => (by cases hx), by simpa using h⟩
 | x :: l, V, p, q, h, e => by
   unfold zhr at e
   rw [List.foldlM_cons] at e
   cases hs : zhs S z p x with
   | none => rw [hs] at e; cases e
   | some r =>
     rw [hs] at e
     obtain ⟨h1, h2, rfl⟩ := zzh h hs
     obtain ⟨h3, h4⟩ := zoj l (V ++ [x]) _ q (h.push h1.1 h1.2.1 h2) e
     refine ⟨fun y hy => ?_, by simpa using h4⟩
     rcases List.mem_cons.1 hy with rfl | hy
     · exact h1
     · exact h3 y hy
theorem ycw (S : St) : Seen S [] (List.replicate S.objs.length false, 0) := by
 refine ⟨rfl, by simp, by simp, fun i => ?_⟩
 simp only [gtb, List.getD, List.getElem?_replicate]
 by_cases h : i < S.objs.length <;> simp [h]
theorem z59 {S : St} : ∀ k, (∀ z, z < k → ∀ x ∈ S.list z, z4t S z x) → (zf6 S k).Nodup → ∃ q, zTo S k = some q ∧ Seen S (zf6 S k) q
 | 0, _, _ => ⟨_, rfl, ycw S⟩
 | k + 1, hok, hn => by
   rw [zft] at hn
   obtain ⟨p, e, hp⟩ := z59 k (fun z hz => hok z (by omega)) (List.nodup_append.1 hn).1
   obtain ⟨q, e2, hq⟩ := zrf (S.list k) _ p hp (hok k (by omega)) hn
   exact ⟨q, by rw [ziv e, e2], by rw [zft]; exact hq⟩
theorem zzf {S : St} : ∀ k q, zTo S k = some q → (∀ z, z < k → ∀ x ∈ S.list z, z4t S z x) ∧ Seen S (zf6 S k) q
 | 0, q, e => by
   have : (List.replicate S.objs.length false, 0) = q := Option.some.inj e
   subst this
   exact ⟨fun z hz => by omega, ycw S⟩
 | k + 1, q, e => by
   cases hs : zTo S k with
   | none => rw [zre (Nat.le_succ k) hs] at e; cases e
   | some p =>
     rw [ziv hs] at e
     obtain ⟨h1, h2⟩ := zzf k p hs
     obtain ⟨h3, h4⟩ := zoj (S.list k) _ p q h2 e
     refine ⟨fun z hz x hx => ?_, by rw [zft]; exact h4⟩
     by_cases e : z = k
     · subst e; exact h3 x hx
     · exact h1 z (by omega) x hx
theorem zdc {α : Type} [BEq α] [LawfulBEq α] : ∀ (l L : List α), l.Nodup → (∀ x ∈ l, x ∈ L) → l.length ≤ L.length
 | [], L, _, _ => Nat.zero_le _
 | x :: l, L, hn, hs => by
   have hx := hs x (by simp)
   have hn' := List.nodup_cons.1 hn
   have := zdc l (L.erase x) hn'.2 (fun y hy => (List.mem_erase_of_ne (by rintro rfl; exact hn'.1 hy)).2 (hs y (by simp [hy])))
   rw [List.length_erase_of_mem hx] at this
   have := List.length_pos_of_mem hx
   simp; omega
theorem zsu (n : Nat) : ((List.range n).map (Int.ofNat)).Nodup := by
 rw [List.nodup_iff_pairwise_ne, List.pairwise_map]
 exact (List.nodup_range (n := n)).imp (fun h e => h (Int.ofNat.inj e))
theorem zpf (l : List Int) (n : Nat) (hn : l.Nodup) (hb : ∀ x ∈ l, 0 ≤ x ∧ x < n) (hl : l.length = n) (id : Nat) (hid : id < n) : (id : Int) ∈ l := by
 by_cases h : (id : Int) ∈ l
 · exact h
 exfalso
 have h1 := zdc ((id : Int) :: l) ((List.range n).map Int.ofNat) (List.nodup_cons.2 ⟨h, hn⟩) (fun x hx => by
  rw [List.mem_map]
  rcases List.mem_cons.1 hx with rfl | hx
  · exact ⟨id, List.mem_range.2 hid, rfl⟩
  · obtain ⟨a, b⟩ := hb x hx
    exact ⟨x.toNat, List.mem_range.2 (by omega), by simp; omega⟩)
 simp at h1; omega
theorem zh7 (S : St) : zdp S = true ↔ Zon S := by
 unfold zdp
 constructor
 · intro h
   cases hs : zTo S 11 with
   | none => rw [hs] at h; cases h
   | some p =>
     rw [hs] at h
     obtain ⟨h1, h2⟩ := zzf 11 p hs
     have hl : (zf6 S 11).length = S.objs.length := by
      have : (p.2 : Int) = S.objs.length := by simpa using h
      rw [← h2.many]; omega
     refine ⟨h1, fun id hid => ?_⟩
     rw [zfh]
     have hm := zpf (zf6 S 11) S.objs.length h2.nodup (fun x hx => by
      obtain ⟨z, hz, hx⟩ := (zg8 S 11 x).1 hx
      exact ⟨(h1 z hz x hx).1, (h1 z hz x hx).2.1⟩) hl id hid
     have h3 := List.nodup_iff_count.1 h2.nodup (id : Int)
     have h4 := List.count_pos_iff.2 hm
     omega
 · intro h
   have hn : (zf6 S 11).Nodup := by
    rw [List.nodup_iff_count]
    intro x
    by_cases hx : x ∈ zf6 S 11
    · obtain ⟨z, hz, hx'⟩ := (zg8 S 11 x).1 hx
      obtain ⟨a, b, _⟩ := h.ok z hz x hx'
      have := h.once x.toNat (by omega)
      rw [zfh, Int.toNat_of_nonneg a] at this
      omega
    · rw [List.count_eq_zero.2 hx]; omega
   obtain ⟨q, e, hq⟩ := z59 11 h.ok hn
   rw [e]
   show ((q.2 : Int) == S.objs.length) = true
   rw [hq.many]
   have h1 := zdc (zf6 S 11) ((List.range S.objs.length).map Int.ofNat) hn (fun x hx => by
    obtain ⟨z, hz, hx'⟩ := (zg8 S 11 x).1 hx
    obtain ⟨a, b, _⟩ := h.ok z hz x hx'
    rw [List.mem_map]
    exact ⟨x.toNat, List.mem_range.2 (by omega), by simp; omega⟩)
   have h2 := zdc ((List.range S.objs.length).map Int.ofNat) (zf6 S 11) (zsu _) (fun x hx => by
    obtain ⟨i, hi, rfl⟩ := List.mem_map.1 hx
    have := h.once i (List.mem_range.1 hi)
    rw [zfh] at this
    exact List.count_pos_iff.1 (by show 0 < List.count (i : Int) _; omega))
   simp at h1 h2 ⊢
   omega
theorem zn9 {o : List Int} {z : Nat} (hz : z < 11) (h3 : gt o 3 = z) : zj0 o = zbg o z := by
 unfold zj0 zbg
 rw [h3]
 by_cases h8 : z < 8
 · have ho : zdg z = true := by simp [zdg]; omega
   have hp : zfr z = (z : Int) % 2 := by simp [zfr, ho]
   have ht : (z : Int).tmod 2 = (z : Int) % 2 := by rw [Int.tmod_eq_emod_of_nonneg (by omega)]
   rw [if_pos ho, hp, ht]
   have h1 : decide ((z : Int) < 8) = true := by simp; omega
   have h2 : ((z : Int) == 8) = false := by simp; omega
   rw [h1, h2]
   cases e1 : (gt o 1 == (z : Int) % 2) <;> cases e2 : (gt o 13 == 0) <;> simp_all
 · have ho : zdg z = false := by simp [zdg]; omega
   rw [if_neg (by simp [ho])]
   have h1 : decide ((z : Int) < 8) = false := by simp; omega
   rw [h1]
   by_cases e : (z : Int) = 8
   · rw [if_pos e]; simp [e]; cases e2 : (gt o 13 == 2) <;> simp_all
   · rw [if_neg e]; simp [e]
theorem zl7 (S : St) : zb4 S = true ↔ Zon S := by
 unfold zb4
 rw [Bool.and_eq_true]
 constructor
 · rintro ⟨h1, h2⟩
   have hin : ∀ z, z < 11 → ∀ x ∈ S.list z, 0 ≤ x ∧ x < S.objs.length := fun z hz x hx => by
    unfold zjk at h1
    rw [List.all_eq_true] at h1
    have := h1 z (List.mem_range.2 hz)
    rw [List.all_eq_true] at this
    have := this x hx
    simpa [zsr] using this
   have hob : ∀ id : Nat, id < S.objs.length → zhc S id (rowAt S.objs id) 11 = true ∧ zcg S id 11 = 1 ∧ zj0 (rowAt S.objs id) = true := fun id hid => by
    rw [List.all_eq_true] at h2
    have := h2 id (List.mem_range.2 hid)
    unfold zep at this
    simp only [Bool.and_eq_true, beq_iff_eq] at this
    exact ⟨this.1.1, this.1.2, this.2⟩
   refine ⟨fun z hz x hx => ?_, fun id hid => (hob id hid).2.1⟩
   obtain ⟨a, b⟩ := hin z hz x hx
   obtain ⟨d, rfl⟩ := Int.eq_ofNat_of_zero_le a
   obtain ⟨o1, o2, o3⟩ := hob d (by omega)
   have hz3 : gt (rowAt S.objs d) 3 = z := by
    unfold zhc at o1
    rw [List.all_eq_true] at o1
    have := o1 z (List.mem_range.2 hz)
    rw [List.all_eq_true] at this
    have := this _ hx
    simp at this
    omega
   exact ⟨a, b, by simpa using hz3, by rw [Int.toNat_natCast, ← zn9 hz hz3]; exact o3⟩
 · intro h
   refine ⟨?_, ?_⟩
   · unfold zjk
     rw [List.all_eq_true]
     intro z hz
     rw [List.all_eq_true]
     intro x hx
     obtain ⟨a, b, _⟩ := h.ok z (List.mem_range.1 hz) x hx
     simp [zsr, a, b]
   · rw [List.all_eq_true]
     intro id hid
     have hid := List.mem_range.1 hid
     have h1 := h.once id hid
     have hm : (id : Int) ∈ zf6 S 11 := by rw [zfh] at h1; exact List.count_pos_iff.1 (by omega)
     obtain ⟨z, hz, hx⟩ := (zg8 S 11 _).1 hm
     obtain ⟨_, _, c, d⟩ := h.ok z hz _ hx
     rw [Int.toNat_natCast] at c d
     unfold zep
     rw [zn9 hz c, d, h1]
     have : zhc S id (rowAt S.objs id) 11 = true := by
      unfold zhc
      rw [List.all_eq_true]
      intro y hy
      rw [List.all_eq_true]
      intro x hx2
      by_cases e : x = id
      · subst e
        obtain ⟨_, _, c2, _⟩ := h.ok y (List.mem_range.1 hy) _ hx2
        rw [Int.toNat_natCast] at c2
        simp [c2]
      · simp [e]
     rw [this]; rfl
theorem zuk (S : St) : zb4 S = zdp S := by
 rw [Bool.eq_iff_iff, zl7, zh7]
end Go.Proofs.YthfalocligkamaaGreatDoor
namespace Go.Proofs.YthfalocligkamaaGreatDoor
open Go Go.RowKit
def inR (n e : Int) : Bool := decide (0 ≤ n) && decide (n < e)
def zcu (e : List Int) : Bool := gt e 0 == 0 || gt e 0 == 5
def zce (e : List Int) : Bool := if zcu e = true then gt e 4 == 0 && gt e 5 == 0 else if gt e 0 = 1 then true else gt e 5 == 0 && (gt e 0 != 4 || gt e 1 == 0)
def zcv (e : List Int) : Bool := inB (gt e 4) (-1073741824) 1073741824
def zbr (e : List Int) : Bool :=
 if gt e 0 = 0 ∨ gt e 0 = 5 then inR (gt e 1) 120 && inR (gt e 2) 2 && inR (gt e 3) 3
 else if gt e 0 = 1 then decide (0 ≤ gt e 1) && inR (gt e 2) 11 && inR (gt e 4) 11 && decide (0 ≤ gt e 3) && decide (0 ≤ gt e 5)
 else if gt e 0 = 2 then decide (0 ≤ gt e 1) && inR (gt e 2) 18 && gt e 2 != 3 && zcv e
 else if gt e 0 = 3 then inR (gt e 1) 2 && inR (gt e 2) 9 && zcv e
 else inR (gt e 2) 7 && zcv e
def evCheck (e : List Int) : Int := if inR (gt e 0) 6 = false then 6 else if zce e = false then 2 else if zbr e = false then 1 else 0
def zdt (e : List Int) : List Int := [gt e 1, gt e 2, gt e 2, 10, 0, 0, 0, 0, 0, 0, 0, 0, 0, gt e 3, 0, 0, 0, 3]
def St.setObj (S : St) (i f : Nat) (x : Int) : St := { S with objs := S.objs.set i ((rowAt S.objs i).set f x) }
def St.setNum (S : St) (i : Nat) (x : Int) : St := { S with num := upd S.num i x }
def zgj (S : St) (e : List Int) : Except Int St :=
 if 400 ≤ S.objs.length then .error 5 else .ok { S with objs := S.objs ++ [zdt e], list := upd S.list 10 (S.list 10 ++ [(S.objs.length : Int)]) }
def zhz (S : St) (e : List Int) : Except Int St :=
 if 0 < S.objs.length ∧ 0 < (S.list 10).length ∧ gt (S.list 10) ((S.list 10).length - 1) = (S.objs.length : Int) - 1 ∧ rowAt S.objs (S.objs.length - 1) = zdt e
 then .ok { S with objs := S.objs.take (S.objs.length - 1), list := upd S.list 10 ((S.list 10).take ((S.list 10).length - 1)) } else .error 20
def zbz (S : St) (b c d : Nat) : List Int := if d = b then (S.list b).eraseIdx c else S.list d
def zbt (S : St) (a b c d e : Nat) : St :=
 { objs := S.objs.set a ((rowAt S.objs a).set 3 d), list := upd (upd S.list b ((S.list b).eraseIdx c)) d ((zbz S b c d).insertIdx e (a : Int)), num := S.num }
def zhx (S : St) (a b c d e : Nat) : Except Int St :=
 if S.objs.length ≤ a then .error 4
 else if ¬ (c < (S.list b).length ∧ gt (S.list b) c = a) then .error 20
 else if (zbz S b c d).length < e then .error 1
 else .ok (zbt S a b c d e)
def zen (S : St) (e : List Int) : Except Int St :=
 if evCheck e ≠ 0 then .error (evCheck e)
 else if gt e 0 = 0 then zgj S e
 else if gt e 0 = 5 then zhz S e
 else if gt e 0 = 1 then zhx S (gt e 1).toNat (gt e 2).toNat (gt e 3).toNat (gt e 4).toNat (gt e 5).toNat
 else if gt e 0 = 2 then
  if (S.objs.length : Int) ≤ gt e 1 then .error 4
  else if gt (rowAt S.objs (gt e 1).toNat) (gt e 2).toNat ≠ gt e 3 then .error 20
  else .ok (S.setObj (gt e 1).toNat (gt e 2).toNat (gt e 4))
 else
  let at' := if gt e 0 = 3 then (gt e 1).toNat * 9 + (gt e 2).toNat else 18 + (gt e 2).toNat
  if S.num at' ≠ gt e 3 then .error 20 else .ok (S.setNum at' (gt e 4))
structure Right (S : St) : Prop where
 many : S.objs.length ≤ 400
 ranges : zbp S = true
 zon : Zon S
 formed : ∀ i, i < S.objs.length → zbf (rowAt S.objs i) = true
theorem zq2 (l : List (List Int)) (i : Nat) (h : i < l.length) : rowAt l i ∈ l := by
 rw [rowAt, List.getD, List.getElem?_eq_getElem h]; exact List.getElem_mem h
theorem zbi (S : St) : checkN S = 0 ↔ Right S := by
 unfold checkN
 constructor
 · intro h
   by_cases c1 : 400 < S.objs.length
   · rw [if_pos c1] at h; cases h
   rw [if_neg c1] at h
   by_cases c2 : zbp S = false
   · rw [if_pos c2] at h; cases h
   rw [if_neg c2] at h
   by_cases c3 : zdp S = false
   · rw [if_pos c3] at h; cases h
   rw [if_neg c3] at h
   by_cases c4 : zfm S = true
   · rw [if_pos c4] at h; cases h
   refine ⟨by omega, by simpa using c2, (zh7 S).1 (by simpa using c3), fun i hi => ?_⟩
   unfold zfm at c4
   rw [Bool.not_eq_true, List.any_eq_false] at c4
   simpa using c4 _ (zq2 _ i hi)
 · intro h
   rw [if_neg (by have := h.many; omega), if_neg (by simp [h.ranges]), if_neg (by simp [(zh7 S).2 h.zon]), if_neg]
   unfold zfm
   rw [Bool.not_eq_true, List.any_eq_false]
   intro r hr
   obtain ⟨i, hi, rfl⟩ := znt hr
   simp [h.formed i hi]
theorem zor (S T : St) (z : Nat) (l : List Int) (hT : T.list = upd S.list z l) (x : Int) : ∀ k, zcg T x k + (if z < k then (S.list z).count x else 0) = zcg S x k + if z < k then l.count x else 0
 | 0 => rfl
 | k + 1 => by
   have ih := zor S T z l hT x k
   rw [zb0, zb0, hT]
   by_cases e : z = k
   · subst e
     rw [if_neg (by omega), if_neg (by omega)] at ih
     rw [if_pos (by omega), if_pos (by omega), zbo]; omega
   · rw [zco _ _ _ _ (Ne.symm e)]
     by_cases h : z < k
     · rw [if_pos h, if_pos h] at ih; rw [if_pos (by omega), if_pos (by omega)]; omega
     · rw [if_neg h, if_neg h] at ih; rw [if_neg (by omega), if_neg (by omega)]; omega
theorem zou (l : List Int) (c : Nat) (x : Int) (hc : c < l.length) : (l.eraseIdx c).count x + (if gt l c = x then 1 else 0) = l.count x := by
 induction l generalizing c with
 | nil => simp at hc
 | cons y l ih =>
   cases c with
   | zero =>
     rw [List.eraseIdx_zero, List.tail_cons, zid, List.count_cons]
     by_cases e : y = x <;> simp [e]
   | succ c =>
     have := ih c (by simpa using hc)
     rw [List.eraseIdx_cons_succ, List.count_cons, List.count_cons, zfj]
     omega
theorem zmw (l : List Int) (e : Nat) (a x : Int) (he : e ≤ l.length) : (l.insertIdx e a).count x = l.count x + if a = x then 1 else 0 := by
 induction l generalizing e with
 | nil =>
   have : e = 0 := by simpa using he
   subst this
   simp [List.count_cons]
 | cons y l ih =>
   cases e with
   | zero => simp [List.count_cons]
   | succ e =>
     have := ih e (by simpa using he)
     rw [List.insertIdx_succ_cons, List.count_cons, List.count_cons, this]; omega
theorem zvq (S : St) (a b c d e : Nat) (hb : b < 11) (hd : d < 11) (hc : c < (S.list b).length) (ha : gt (S.list b) c = a) (he : e ≤ (zbz S b c d).length) (x : Int) :
 zcg (zbt S a b c d e) x 11 = zcg S x 11 := by
 have h1 := zor S { S with list := upd S.list b ((S.list b).eraseIdx c) } b _ rfl x 11
 have h2 := zor { S with list := upd S.list b ((S.list b).eraseIdx c) } (zbt S a b c d e) d _ rfl x 11
 rw [if_pos hb, if_pos hb] at h1
 rw [if_pos hd, if_pos hd, zmw _ _ _ _ he] at h2
 have h3 := zou (S.list b) c x hc
 rw [ha] at h3
 have h4 : (upd S.list b ((S.list b).eraseIdx c) d) = zbz S b c d := by
  unfold zbz upd
  by_cases e : d = b <;> simp [e]
 simp only [h4] at h2
 omega
theorem zi2 (S : St) (x : Int) (y z : Nat) (hyz : y < z) : ∀ k, z < k → x ∈ S.list y → x ∈ S.list z → 2 ≤ zcg S x k
 | 0, h, _, _ => by omega
 | k + 1, h, hy, hz => by
   rw [zb0]
   by_cases e : z = k
   · subst e
     have h1 := List.count_pos_iff.2 hz
     have h2 : ∀ m, y < m → 0 < zcg S x m := fun m => by
      induction m with
      | zero => intro h; omega
      | succ m ih =>
        intro h
        rw [zb0]
        by_cases e : y = m
        · subst e; have := List.count_pos_iff.2 hy; omega
        · have := ih (by omega); omega
     have := h2 z hyz
     omega
   · have := zi2 S x y z hyz k (by omega) hy hz
     omega
theorem Zon.one {S : St} (h : Zon S) {x : Int} {y z : Nat} (hy : y < 11) (hz : z < 11) (h1 : x ∈ S.list y) (h2 : x ∈ S.list z) : y = z := by
 obtain ⟨a, b, _⟩ := h.ok y hy x h1
 have h3 := h.once x.toNat (by omega)
 rw [Int.toNat_of_nonneg a] at h3
 rcases Nat.lt_trichotomy y z with h | h | h
 · have := zi2 S x y z h 11 hz h1 h2; omega
 · exact h
 · have := zi2 S x z y h 11 hy h2 h1; omega
theorem zb5 (l : List (List Int)) (i j : Nat) (r : List Int) (h : i < l.length) : rowAt (l.set i r) j = if i = j then r else rowAt l j := by
 unfold rowAt List.getD
 rw [List.getElem?_set]
 by_cases e : i = j
 · subst e; rw [if_pos rfl, if_pos h, if_pos rfl]; rfl
 · rw [if_neg e, if_neg e]
theorem zj1 (o : List Int) (h : o.length = 18) (x : Int) (z : Int) : zbg (o.set 3 x) z = zbg o z := by
 unfold zbg
 rw [zeh _ _ _ _ (by omega), zeh _ _ _ _ (by omega)]; rfl
theorem Zon.moved {S : St} (h : Zon S) (hw : ∀ i, i < S.objs.length → (rowAt S.objs i).length = 18) (a b c d e : Nat) (hA : a < S.objs.length) (hb : b < 11) (hd : d < 11) (hc : c < (S.list b).length) (ha : gt (S.list b) c = a) (he : e ≤ (zbz S b c d).length)
 (hs : zbg (rowAt S.objs a) d = true) : Zon (zbt S a b c d e) := by
 have hcnt := zvq S a b c d e hb hd hc ha he
 have hlen : (zbt S a b c d e).objs.length = S.objs.length := by simp [zbt]
 have hmem : (a : Int) ∈ (zbt S a b c d e).list d := by
  show (a : Int) ∈ upd _ d _ d
  rw [zbo, List.mem_insertIdx he]; exact Or.inl rfl
 have hrow : ∀ j, rowAt (zbt S a b c d e).objs j = if a = j then (rowAt S.objs a).set 3 d else rowAt S.objs j := fun j => zb5 _ _ _ _ hA
 have hold : ∀ z, z < 11 → ∀ x ∈ (zbt S a b c d e).list z, x = a ∨ x ∈ S.list z := by
  intro z hz x hx
  have hx : x ∈ upd (upd S.list b ((S.list b).eraseIdx c)) d ((zbz S b c d).insertIdx e (a : Int)) z := hx
  by_cases e1 : z = d
  · subst e1
    rw [zbo, List.mem_insertIdx he] at hx
    rcases hx with hx | hx
    · exact Or.inl hx
    · right
      unfold zbz at hx
      by_cases e2 : z = b
      · subst e2; rw [if_pos rfl] at hx; exact List.mem_of_mem_eraseIdx hx
      · rw [if_neg e2] at hx; exact hx
  · rw [zco _ _ _ _ e1] at hx
    right
    by_cases e2 : z = b
    · subst e2; rw [zbo] at hx; exact List.mem_of_mem_eraseIdx hx
    · rw [zco _ _ _ _ e2] at hx; exact hx
 refine ⟨fun z hz x hx => ?_, fun id hid => by rw [hcnt]; exact h.once id (by omega)⟩
 by_cases e1 : x = a
 · subst e1
   have hzd : z = d := by
    have h3 := h.once a hA
    rw [← hcnt] at h3
    rcases Nat.lt_trichotomy z d with h | h | h
    · have := zi2 _ _ z d h 11 hd hx hmem; omega
    · exact h
    · have := zi2 _ _ d z h 11 hz hmem hx; omega
   subst hzd
   refine ⟨by omega, by omega, ?_, ?_⟩
   · rw [Int.toNat_natCast, hrow, if_pos rfl, zeh _ _ _ _ (by rw [hw a hA]; omega)]; simp
   · rw [Int.toNat_natCast, hrow, if_pos rfl, zj1 _ (hw a hA)]; exact hs
 · rcases hold z hz x hx with h1 | h1
   · exact absurd h1 e1
   obtain ⟨p, q, r, s⟩ := h.ok z hz x h1
   refine ⟨p, by omega, ?_, ?_⟩
   · rw [hrow, if_neg (by omega)]; exact r
   · rw [hrow, if_neg (by omega)]; exact s
theorem zl2 (bs o : List Int) (n f : Nat) (x : Int) (h : zdv bs o n = true) (hf : f < o.length) (hx : inB x (gt bs (f * 2)) (gt bs (f * 2 + 1)) = true) : zdv bs (o.set f x) n = true := by
 unfold zdv at *
 rw [List.all_eq_true] at *
 intro i hi
 rw [zeh _ _ _ _ hf]
 by_cases e : f = i
 · subst e; rw [if_pos rfl]; exact hx
 · rw [if_neg e]; exact h i hi
theorem za2 (S : St) : zbp S = true ↔ (∀ i, i < S.objs.length → zdv (zal S.objs.length) (rowAt S.objs i) 18 = true) ∧ zfn S 2 = true ∧ zdv gmBounds (zc7 S.num 18 7) 7 = true := by
 unfold zbp zeu
 rw [Bool.and_eq_true, Bool.and_eq_true, List.all_eq_true, and_assoc]
 constructor
 · rintro ⟨a, b, c⟩; exact ⟨fun i hi => a i (List.mem_range.2 hi), b, c⟩
 · rintro ⟨a, b, c⟩; exact ⟨fun i hi => a i (List.mem_range.1 hi), b, c⟩
theorem zhg {S : St} (h : zbp S = true) (hw : ∀ i, i < S.objs.length → (rowAt S.objs i).length = 18) (T : St) (a f : Nat) (x : Int) (ha : a < S.objs.length) (hf : f < 18) (ho : T.objs = S.objs.set a ((rowAt S.objs a).set f x)) (hn : T.num = S.num)
 (hx : inB x (gt (zal S.objs.length) (f * 2)) (gt (zal S.objs.length) (f * 2 + 1)) = true) : zbp T = true := by
 rw [za2] at *
 have hl : T.objs.length = S.objs.length := by rw [ho]; simp
 refine ⟨fun i hi => ?_, ?_, by rw [hn]; exact h.2.2⟩
 · rw [hl, ho, zb5 _ _ _ _ ha]
   by_cases e : a = i
   · rw [if_pos e]; exact zl2 _ _ _ _ _ (h.1 a ha) (by rw [hw a ha]; exact hf) hx
   · rw [if_neg e]; exact h.1 i (by omega)
 · have := h.2.1
   unfold zfn at *
   rw [hn]; exact this
theorem Right.moved {S : St} (h : Right S) (hw : ∀ i, i < S.objs.length → (rowAt S.objs i).length = 18) (a b c d e : Nat) (hA : a < S.objs.length) (hb : b < 11) (hd : d < 11) (hc : c < (S.list b).length) (ha : gt (S.list b) c = a) (he : e ≤ (zbz S b c d).length)
 (hs : zbg (rowAt S.objs a) d = true) (hf : zbf ((rowAt S.objs a).set 3 d) = true) : Right (zbt S a b c d e) := by
 have hlen : (zbt S a b c d e).objs.length = S.objs.length := by simp [zbt]
 refine ⟨by rw [hlen]; exact h.many, zhg h.ranges hw _ a 3 d hA (by omega) rfl rfl ?_, h.zon.moved hw a b c d e hA hb hd hc ha he hs, fun i hi => ?_⟩
 · have : inB (d : Int) 0 10 = true := by simp [inB]; omega
   exact this
 · show zbf (rowAt (S.objs.set a _) i) = true
   rw [zb5 _ _ _ _ hA]
   by_cases e : a = i
   · rw [if_pos e]; exact hf
   · rw [if_neg e]; exact h.formed i (by omega)
end Go.Proofs.YthfalocligkamaaGreatDoor
namespace Go.Proofs.YthfalocligkamaaGreatDoor
open Go Go.RowKit
@[go_sem ↓] theorem z9x (ρ : Operand → Value) (dst : Option Tmp) (x : Operand) (ty : TypeId) (pos : String) (after : Array Edge) (guard : Option (Nat × Bool)) :
 execOp ρ { dst, op := .load 90 x, type := ty, pos, after, guard } = za3 90 (ρ x) := rfl
@[go_sem ↓] theorem z82 (ρ : Operand → Value) (dst : Option Tmp) (x y : Operand) (ty : TypeId) (pos : String) (after : Array Edge) (guard : Option (Nat × Bool)) :
 execOp ρ { dst, op := .store 90 x y, type := ty, pos, after, guard } = zaz 90 (ρ x) (ρ y) := rfl
@[go_sem] theorem zzx (w : World) (b o : Nat) (h : o + 6 ≤ (w.blk b).size) : (za3 90 (.pointer (some ⟨b, o, none⟩))).run Tryz.prog w = .ok (.value (.agg (sub (w.blk b) o 6))) w :=
 zaw w b o 90 6 (by kernel_rfl) (by kernel_rfl) h (by omega)
@[go_sem] theorem zx8 (w : World) (b : Nat) (cs : Array Value) (h : (w.blk b).size = 6) (hc : cs.size = 6) (h1 : zai cs = true) (hf : w.free b = true) : (zaz 90 (.pointer (some ⟨b, 0, none⟩)) (.agg cs)).run Tryz.prog w = .ok .skip (w.setRow b cs) :=
 zax w b 90 6 _ (by kernel_rfl) h hc (by omega) hf h1
@[go_sem] theorem yil : errV 1 = .iface 66 (.int .i64 1) := rfl
@[go_sem] theorem yim : errV 2 = .iface 66 (.int .i64 2) := rfl
@[go_sem] theorem yin : errV 3 = .iface 66 (.int .i64 3) := rfl
@[go_sem] theorem yio : errV 4 = .iface 66 (.int .i64 4) := rfl
@[go_sem] theorem yip : errV 5 = .iface 66 (.int .i64 5) := rfl
@[go_sem] theorem yiq : errV 6 = .iface 66 (.int .i64 6) := rfl
@[go_sem] theorem yir : errV 7 = .iface 66 (.int .i64 7) := rfl
@[go_sem] theorem yis : errV 8 = .iface 66 (.int .i64 8) := rfl
@[go_sem] theorem yit : errV 9 = .iface 66 (.int .i64 9) := rfl
@[go_sem] theorem ygo : errV 10 = .iface 66 (.int .i64 10) := rfl
@[go_sem] theorem ygp : errV 11 = .iface 66 (.int .i64 11) := rfl
@[go_sem] theorem ygq : errV 12 = .iface 66 (.int .i64 12) := rfl
@[go_sem] theorem ygr : errV 13 = .iface 66 (.int .i64 13) := rfl
@[go_sem] theorem ygs : errV 14 = .iface 66 (.int .i64 14) := rfl
@[go_sem] theorem ygt : errV 15 = .iface 66 (.int .i64 15) := rfl
@[go_sem] theorem ygu : errV 16 = .iface 66 (.int .i64 16) := rfl
@[go_sem] theorem ygv : errV 17 = .iface 66 (.int .i64 17) := rfl
@[go_sem] theorem ygw : errV 18 = .iface 66 (.int .i64 18) := rfl
@[go_sem] theorem ygx : errV 19 = .iface 66 (.int .i64 19) := rfl
@[go_sem] theorem ygy : errV 20 = .iface 66 (.int .i64 20) := rfl
@[go_sem] theorem za4 : errV 0 = .nilIface := rfl
theorem zqm (n m : Int) (w : World) : Calls Tryz.prog 145 #[.int .i64 n, .int .i64 m] w fun e w' => e = .returned (.bool (inR n m)) ∧ w' = w := by
 go_enter Tryz.func145, Tryz.ntmps145
 go_wp2_with fail
 all_goals (go_ret; exact ⟨zao (by (go_light; first | rfl | (simp [inR]; done) | (simp_all [inR]; done) | (simp [inR]; omega) | (simp_all [inR]; omega) | (grind [inR]))), rfl⟩)
theorem zo0 (e : List Int) (he : e.length = 6) (w : World) : Calls Tryz.prog 164 #[.agg (cellsOf e)] w fun x w' => x = .returned (.bool (zcu e)) ∧ Grow w w' := by
 go_enter Tryz.func164, Tryz.ntmps164
 go_wp2_with fail
 all_goals (go_ret; exact ⟨zao (by (go_light; first | rfl | (simp [zcu]; done) | (simp_all [zcu]; done) | (simp [zcu]; omega) | (simp_all [zcu]; omega) | (grind [zcu]))), grI⟩)
set_option maxRecDepth 100000 in
theorem zo1 (e : List Int) (he : e.length = 6) (w : World) : Calls Tryz.prog 146 #[.agg (cellsOf e)] w fun x w' => x = .returned (.bool (zce e)) ∧ Grow w w' := by
 go_enter Tryz.func146, Tryz.ntmps146
 go_wp2_with (go_at_call 164; refine (zo0 e he _).mono ?_; rintro e' w' ⟨rfl, nx, rfl⟩)
 all_goals (go_ret; exact ⟨zao (by (go_light; first | rfl | (simp [zce]; done) | (simp_all [zce]; done) | (simp [zce]; omega) | (simp_all [zce]; omega) | (grind [zce]))), grI⟩)
set_option maxRecDepth 100000 in
set_option maxHeartbeats 2000000 in
theorem zm1 (e : List Int) (he : e.length = 6) (w : World) : Calls Tryz.prog 147 #[.agg (cellsOf e)] w fun x w' => x = .returned (.bool (zbr e)) ∧ Grow w w' := by
 go_enter Tryz.func147, Tryz.ntmps147
 go_wp2_with (go_at_call 145; refine (zqm _ _ _).mono ?_; rintro e' w' ⟨rfl, hww⟩; subst w')
 all_goals (go_ret; exact ⟨zao (by (go_light; first | rfl | (simp [zbr, zcv, inB]; done) | (simp_all [zbr, zcv, inB]; done) | (simp [zbr, zcv, inB]; omega) | (simp_all [zbr, zcv, inB]; omega) | (grind [zbr, zcv, inB]))), grI⟩)
set_option maxRecDepth 100000 in
set_option maxHeartbeats 2000000 in
theorem zbv (e : List Int) (he : e.length = 6) (w : World) : Calls Tryz.prog 119 #[.agg (cellsOf e)] w fun x w' => x = .returned (errV (evCheck e)) ∧ Grow w w' := by
 go_enter Tryz.func119, Tryz.ntmps119
 go_wp2_with (first | (go_at_call 145; refine (zqm _ _ _).mono ?_; rintro e' w' ⟨rfl, hww⟩; subst w') | (go_at_call 146; refine (zo1 e he _).mono ?_; rintro e' w' ⟨rfl, nx, rfl⟩) | (go_at_call 147; refine (zm1 e he _).mono ?_; rintro e' w' ⟨rfl, nx, rfl⟩))
 all_goals (go_ret; exact ⟨by (go_light; first | rfl | (simp [evCheck, errV]; done) | (simp_all [evCheck, errV]; done) | (simp [evCheck, errV]; omega) | (simp_all [evCheck, errV]; omega) | (grind [evCheck, errV])), grI⟩)
end Go.Proofs.YthfalocligkamaaGreatDoor
