/- Which abilities of a card count then. -/
import Derived.Test.YthfalocligkamaaGreatDoorMTab3
import Derived.Test.YthfalocligkamaaGreatDoorMRanges
namespace Go.Proofs.YthfalocligkamaaGreatDoor
open Go Go.RowKit
@[go_sem] theorem AbV.get0 (a : AbV) : a.arr[0]? = some (I a.wh) := rfl
@[go_sem] theorem AbV.get0' (a : AbV) (h : 0 < a.arr.size) : a.arr[0]'h = I a.wh := rfl
@[go_sem] theorem EfV.get0 (a : EfV) : a.arr[0]? = some (I a.op) := rfl
@[go_sem] theorem EfV.get0' (a : EfV) (h : 0 < a.arr.size) : a.arr[0]'h = I a.op := rfl
@[go_sem] theorem EfV.get1 (a : EfV) : a.arr[1]? = some (I a.n) := rfl
@[go_sem] theorem EfV.get1' (a : EfV) (h : 1 < a.arr.size) : a.arr[1]'h = I a.n := rfl
@[go_sem] theorem EfV.get2 (a : EfV) : a.arr[2]? = some (I a.m) := rfl
@[go_sem] theorem EfV.get2' (a : EfV) (h : 2 < a.arr.size) : a.arr[2]'h = I a.m := rfl
@[go_sem] theorem EfV.get4 (a : EfV) : a.arr[4]? = some a.subs.val := rfl
@[go_sem] theorem EfV.get4' (a : EfV) (h : 4 < a.arr.size) : a.arr[4]'h = a.subs.val := rfl
@[go_sem] theorem z7j (w : World) (s : Sl) (q : IntKind) (i : Int) (h0 : 0 ≤ i) (h1 : i < s.n) : (Instr.indexAt 97 s.val (.int q i)).run Tryz.prog w = .ok (.pointer (some ⟨s.b, s.o + i.toNat * 14, none⟩)) w :=
 zbh w Tryz.underlying97 (fun w => (by kernel_rfl : (sizeOf 152).run Tryz.prog w = .ok 14 w)) s q i h0 h1
@[go_sem] theorem z5i (w : World) (s : Sl) (q : IntKind) (i : Int) (h0 : 0 ≤ i) (h1 : i < s.n) : (Instr.indexAt 30 s.val (.int q i)).run Tryz.prog w = .ok (.pointer (some ⟨s.b, s.o + i.toNat * 5, none⟩)) w :=
 zbh w Tryz.underlying30 (fun w => (by kernel_rfl : (sizeOf 32).run Tryz.prog w = .ok 5 w)) s q i h0 h1
theorem AbsOk.get {w : World} {n : Nat} {l : List AbV} {m : List AbN} (h : AbsOk w n l m) : l.length = m.length ∧ ∀ (i : Nat) (a : AbV) (d : AbN), l[i]? = some a → m[i]? = some d → AbOk w n a d := by
 induction h with
 | nil => exact ⟨rfl, fun i a d h => by simp at h⟩
 | cons h _ ih =>
   refine ⟨by rw [List.length_cons, List.length_cons, ih.1], fun i a d h1 h2 => ?_⟩
   cases i with
   | zero =>
     simp only [List.getElem?_cons_zero, Option.some.injEq] at h1 h2
     subst h1; subst h2; exact h
   | succ i =>
     simp only [List.getElem?_cons_succ] at h1 h2
     exact ih.2 i a d h1 h2
def zem (m : List AbN) (wh : Int) (k : Nat) : List Int := ((List.range k).filter fun i => (m.getD i ⟨0, 0, 0, 0, 0⟩).wh == wh).map fun (i : Nat) => (i : Int)
def usesN (m : List AbN) (wh : Int) : List Int := zem m wh m.length
theorem zp9 (m : List AbN) (wh : Int) (k : Nat) : zem m wh (k + 1) = zem m wh k ++ (if ((m.getD k ⟨0, 0, 0, 0, 0⟩).wh == wh) = true then [(k : Int)] else []) := by
 unfold zem
 rw [List.range_succ, List.filter_append, List.map_append]
 congr 1
 by_cases h : ((m.getD k ⟨0, 0, 0, 0, 0⟩).wh == wh) = true
 · rw [if_pos h, List.filter_cons_of_pos (by simpa using h)]; rfl
 · rw [if_neg h, List.filter_cons_of_neg (by simpa using h)]; rfl
theorem zrd (m : List AbN) (wh : Int) (x : Int) (h : x ∈ usesN m wh) : ∃ i : Nat, x = i ∧ i < m.length ∧ (m.getD i ⟨0, 0, 0, 0, 0⟩).wh = wh := by
 unfold usesN zem at h
 obtain ⟨i, hi, rfl⟩ := List.mem_map.1 h
 obtain ⟨h1, h2⟩ := List.mem_filter.1 hi
 exact ⟨i, rfl, List.mem_range.1 h1, by simpa using h2⟩
theorem CardOk.ab {w : World} {n : Nat} {c : CdV} {d : CardN} (h : CardOk w n c d) {i : Nat} (hi : i < d.abs.length) :
 ∃ a : AbV, c.abs.n = d.abs.length ∧ c.abs.b < w.heap.size ∧ c.abs.o + i * 14 + 14 ≤ (w.blk c.abs.b).size ∧ sub (w.blk c.abs.b) (c.abs.o + i * 14) 14 = a.arr ∧ sub (w.blk c.abs.b) (c.abs.o + i * 14 + 9) 5 = a.ef.arr ∧ AbOk w n a (d.abs.getD i ⟨0, 0, 0, 0, 0⟩) := by
 obtain ⟨l, h1, _, h2⟩ := h.abs
 obtain ⟨g1, g2⟩ := h2.get
 have hl : l[i]? = some l[i] := List.getElem?_eq_getElem (by omega)
 obtain ⟨q1, q2, q3⟩ := h1.at (by decide) (i := i) (x := l[i].arr) (by rw [List.getElem?_map, hl]; rfl)
 refine ⟨l[i], by rw [h1.len, List.length_map, g1], q1, q2, q3, ?_, g2 i _ _ hl ?_⟩
 · have : sub (w.blk c.abs.b) (c.abs.o + i * 14 + 9) 5 = sub (sub (w.blk c.abs.b) (c.abs.o + i * 14) 14) 9 5 := by
    unfold sub
    rw [Array.extract_extract]
    congr 1
    omega
   rw [this, q3]
   rfl
 · rw [List.getD, List.getElem?_eq_getElem hi]; rfl
set_option maxRecDepth 100000 in
set_option maxHeartbeats 2000000 in
theorem zmm (w : World) (c : CdV) (d : CardN) (n : Nat) (h : CardOk w n c d) (wh : Int) (hd : d.abs.length ≤ 1000) : Calls Tryz.prog 144 #[.agg c.arr, .int .i64 wh] w fun e w' => ∃ s : Sl, e = .returned s.val ∧ Ints w' s (usesN d.abs wh) ∧ (∀ b, s.owns b → w.heap.size ≤ b) ∧ Grow w w' := by
 have H := Lib.hid h
 have hcn : c.abs.n = d.abs.length := by
  obtain ⟨l, h1, _, h2⟩ := h.abs
  rw [h1.len, List.length_map, h2.get.1]
 clear h
 go_enter Tryz.func144, Tryz.ntmps144
 go_wp2_with fail
 go_loopw [5, 11] (fun v i wr => ∃ (k : Nat) (s : Sl), k ≤ d.abs.length ∧ i = .int .i64 k ∧ v = s.val ∧ Made (w.alloc (.cells c.arr 99)).heap.size wr s 1 ((zem d.abs wh k).map I) ∧ s.n ≤ k ∧ Grow (w.alloc (.cells c.arr 99)) wr) (fun _ i _ => d.abs.length - (intOf i).toNat)
 case atStart => exact ⟨0, .nil, by omega, rfl, rfl, Made.nil _ _ _, by simp [Sl.n], grI⟩
 case round =>
  obtain ⟨k, s, hk, rfl, rfl, hM, hsn, hG⟩ := hrel
  obtain ⟨x, rfl⟩ := hG
  have HM := Lib.hid hM
  clear hM
  by_cases hlt : k < d.abs.length
  · obtain ⟨a, _, q1, q2, q3, _, q5⟩ := H.out.ab hlt
    have hwh : (d.abs.getD k ⟨0, 0, 0, 0, 0⟩).wh = a.wh := q5.1.symm
    clear q5
    have HS : Hid (zem d.abs wh (k + 1) = zem d.abs wh k ++ (if (a.wh == wh) = true then [(k : Int)] else [])) := by rw [Hid, zp9, hwh]
    clear hwh
    cases hd2 : (a.wh == wh) with
    | false =>
      have HS2 : Hid (zem d.abs wh (k + 1) = zem d.abs wh k) := by rw [Hid, HS.out, hd2]; simp
      go_wp2_with fail
      go_roundw
      case rel => exact ⟨k + 1, s, by omega, by go_num, rfl, by rw [HS2.out]; exact HM.out.grow grI, by omega, grI⟩
      case measure => simp [intOf]; omega
    | true =>
      have HS2 : Hid (zem d.abs wh (k + 1) = zem d.abs wh k ++ [(k : Int)]) := by rw [Hid, HS.out, hd2]; simp
      go_wp2_with ((at_builtin; refine zbc rfl _ _ 23 rfl 3 Tryz.t3 (.int .i64 0) 1 8 Tryz.underlying23 (by kernel_rfl) (by kernel_rfl) (by kernel_rfl) (by kernel_rfl) (by omega) rfl (w.alloc (.cells c.arr 99)) s (.mk _ 0 1 1) ((zem d.abs wh k).map I) [I (k : Int)] rfl rfl (HM.out.grow grI) grI (zdd _ _ _ (by go_simp)) (zau _) (zau [(k : Int)]) (by simp only [Sl.n] at hsn ⊢; omega) ?_; intro s2 y c1 _ c3 _; have C := Lib.hid (And.intro c1 c3); clear c1 c3))
      go_roundw
      case rel => exact ⟨k + 1, s2, by omega, by go_num, rfl, by rw [HS2.out, List.map_append]; exact C.out.1.grow grI, by rw [C.out.2]; simp only [Sl.n] at hsn ⊢; omega, grI⟩
      case measure => simp [intOf]; omega
  · go_wp2_with fail
    go_ret
    have hkl : k = d.abs.length := by omega
    have hM := HM.out.cells
    rw [hkl] at hM
    exact ⟨s, rfl, (hM.grow grI).ints, fun b hb => Nat.le_trans (by rw [zaa]; omega) (HM.out.own b hb).1, grI⟩
end Go.Proofs.YthfalocligkamaaGreatDoor
namespace Go.Proofs.YthfalocligkamaaGreatDoor
open Go Go.RowKit
theorem Right.num {S : St} (h : Right S) {i f : Nat} (hi : i < S.objs.length) (hf : f < 18) : gt (zal S.objs.length) (f * 2) ≤ gt (rowAt S.objs i) f ∧ gt (rowAt S.objs i) f ≤ gt (zal S.objs.length) (f * 2 + 1) := by
 have h1 := ((za2 S).1 h.ranges).1 i hi
 unfold zdv at h1
 have h2 := List.all_eq_true.1 h1 f (List.mem_range.2 hf)
 unfold inB at h2
 simpa using h2
theorem Right.card {S : St} (h : Right S) {i : Nat} (hi : i < S.objs.length) : 0 ≤ gt (rowAt S.objs i) 0 ∧ gt (rowAt S.objs i) 0 < 120 := by
 obtain ⟨h1, h2⟩ := h.num hi (f := 0) (by decide)
 have e1 : gt (zal S.objs.length) (0 * 2) = 0 := rfl
 have e2 : gt (zal S.objs.length) (0 * 2 + 1) = 119 := rfl
 omega
def zbj (S : St) (id : Nat) : CardN := zcs (gt (rowAt S.objs id) 0).toNat
set_option maxRecDepth 100000 in
set_option maxHeartbeats 1000000 in
theorem zlv (S : St) (V : SV) (w : World) (R : RepSt w V S) (hR : Right S) (id : Nat) (hid : id < S.objs.length) :
 Calls Tryz.prog 97 #[.agg (stA V S.num), .int .i64 (id : Int)] w fun e w' => ∃ c : CdV, e = .returned (.agg c.arr) ∧ CardOk w' w.heap.size c (zbj S id) ∧ Grow w w' := by
 have hN := R.objs.len
 obtain ⟨hob, how, hosz, hosub, hocell⟩ := R.objs.at (by omega) id hid
 obtain ⟨k0, k1⟩ := hR.card hid
 obtain ⟨n, hn⟩ := Int.eq_ofNat_of_zero_le k0
 have hn120 : n < 120 := by omega
 have HK : Hid (zbj S id = zcs n) := by rw [Hid, zbj, hn, Int.toNat_natCast]
 have hc0 := hocell 0 (by omega)
 rw [Nat.add_zero, hn] at hc0
 clear hocell hosub hosz how R hR k0 k1 hn
 go_enter Tryz.func97, Tryz.ntmps97
 go_wp2_with (go_at_call 130; refine (zqg _ n hn120).mono ?_; rintro e' w' ⟨c, rfl, hc, nx, rfl⟩; have HC := Lib.hid hc; clear hc)
 refine bodyPost_ret (zba rfl _ _ _ rfl ?_) rfl ?_
 · go_simp
 · refine ⟨c, by go_simp, ?_, grI⟩
   rw [HK.out]
   exact HC.out.to (b := w.heap.size + 1) grI (Off.plus (Off.base _ _ _ _ (zaa _ _).symm) _) (by first | (go_simp; done) | (go_simp; omega) | (simp only [Sl.b]; go_simp; omega)) (by first | (go_simp; done) | (go_simp; omega) | (simp only [Sl.b]; go_simp; omega)) grI
@[go_sem] theorem z60 (w : World) (c : CdV) : (Instr.field 99 (.agg c.arr) 0).run Tryz.prog w = .ok (I c.kind) w := by
 obtain ⟨a, b, f, c0, c1, c2, c3, c4, c5, p, t, s, l⟩ := c; cases l <;> kernel_rfl
def zam (S : St) (id : Int) : Bool := decide (0 ≤ id) && decide (id < S.objs.length) && (gt (rowAt S.objs id.toNat) 3 == 8) && ((zbj S id.toNat).kind == 1)
theorem zib {S : St} {id : Int} (h : zam S id = true) : 0 ≤ id ∧ id < S.objs.length ∧ gt (rowAt S.objs id.toNat) 3 = 8 ∧ (zbj S id.toNat).kind = 1 := by
 unfold zam at h
 simp only [Bool.and_eq_true, decide_eq_true_eq, beq_iff_eq] at h
 exact ⟨h.1.1.1, h.1.1.2, h.1.2, h.2⟩
set_option maxRecDepth 100000 in
set_option maxHeartbeats 1000000 in
theorem zec (S : St) (V : SV) (w : World) (R : RepSt w V S) (hR : Right S) (id : Int) :
 Calls Tryz.prog 60 #[.agg (stA V S.num), .int .i64 id] w fun e w' => e = .returned (.bool (zam S id)) ∧ Grow w w' := by
 have hN := R.objs.len
 have HR := Lib.hid R
 have HH := Lib.hid hR
 by_cases h0 : id < 0
 · have HB : Hid (zam S id = false) := by rw [Hid, zam]; simp; omega
   clear R hR
   go_enter Tryz.func60, Tryz.ntmps60
   go_wp2_with fail
   go_ret
   exact ⟨zao HB.out.symm, grI⟩
 · by_cases h1 : (S.objs.length : Int) ≤ id
   · have HB : Hid (zam S id = false) := by rw [Hid, zam]; simp; omega
     clear R hR
     go_enter Tryz.func60, Tryz.ntmps60
     go_wp2_with fail
     go_ret
     exact ⟨zao HB.out.symm, grI⟩
   · obtain ⟨d, rfl⟩ := Int.eq_ofNat_of_zero_le (show 0 ≤ id by omega)
     have hd : d < S.objs.length := by omega
     have hd' : (d : Int) < S.objs.length := by omega
     obtain ⟨hob, how, hosz, hosub, hocell⟩ := R.objs.at (by omega) d hd
     have hc3 := hocell 3 (by omega)
     have HB : Hid (zam S d = ((gt (rowAt S.objs d) 3 == 8) && ((zbj S d).kind == 1))) := by rw [Hid, zam]; simp [hd]
     clear hocell hosub R hR h1 h0
     generalize rowAt S.objs d = row at *
     by_cases h3 : gt row 3 = 8
     · have HB2 : Hid (zam S d = ((zbj S d).kind == 1)) := by rw [Hid, HB.out]; simp [h3]
       go_enter Tryz.func60, Tryz.ntmps60
       go_wp2_with (go_at_call 97; refine (zlv S V _ (HR.out.grow grI) HH.out d hd).mono ?_; rintro e' w' ⟨c, rfl, hc, nx, rfl⟩; have hck := hc.kind; clear hc)
       go_ret
       exact ⟨zao HB2.out.symm, grI⟩
     · have HB2 : Hid (zam S d = false) := by rw [Hid, HB.out]; simp [h3]
       go_enter Tryz.func60, Tryz.ntmps60
       go_wp2_with fail
       go_ret
       exact ⟨zao HB2.out.symm, grI⟩
end Go.Proofs.YthfalocligkamaaGreatDoor
namespace Go.Proofs.YthfalocligkamaaGreatDoor
open Go Go.RowKit
structure StV where
 src : Int
 ctl : Int
 grp : Int
 ef : EfV
def StV.arr (a : StV) : Array Value := #[I a.src, I a.ctl, I a.grp, I a.ef.op, I a.ef.n, I a.ef.m, I a.ef.who, a.ef.subs.val]
@[go_sem] theorem StV.size (a : StV) : a.arr.size = 8 := by simp [StV.arr]
@[go_sem] theorem StV.one (a : StV) : zai a.arr = true := by
 have h := val_oneCell a.ef.subs
 simp only [zai, StV.arr, List.all_toArray, List.all_cons, List.all_nil, h, Bool.and_true]
 rfl
@[go_sem] theorem StV.all (e : StV) : sub e.arr 0 8 = e.arr := by
 unfold sub; rw [Nat.zero_add, ← StV.size e, Array.extract_size]
@[go_sem] theorem StV.get0 (c : StV) : c.arr[0]? = some (I c.src) := rfl
@[go_sem] theorem StV.get0' (c : StV) (h : 0 < c.arr.size) : c.arr[0]'h = I c.src := rfl
@[go_sem] theorem StV.get1 (c : StV) : c.arr[1]? = some (I c.ctl) := rfl
@[go_sem] theorem StV.get1' (c : StV) (h : 1 < c.arr.size) : c.arr[1]'h = I c.ctl := rfl
@[go_sem] theorem StV.get2 (c : StV) : c.arr[2]? = some (I c.grp) := rfl
@[go_sem] theorem StV.get2' (c : StV) (h : 2 < c.arr.size) : c.arr[2]'h = I c.grp := rfl
@[go_sem] theorem StV.get3 (c : StV) : c.arr[3]? = some (I c.ef.op) := rfl
@[go_sem] theorem StV.get3' (c : StV) (h : 3 < c.arr.size) : c.arr[3]'h = I c.ef.op := rfl
@[go_sem] theorem StV.get4 (c : StV) : c.arr[4]? = some (I c.ef.n) := rfl
@[go_sem] theorem StV.get4' (c : StV) (h : 4 < c.arr.size) : c.arr[4]'h = I c.ef.n := rfl
@[go_sem] theorem StV.get5 (c : StV) : c.arr[5]? = some (I c.ef.m) := rfl
@[go_sem] theorem StV.get5' (c : StV) (h : 5 < c.arr.size) : c.arr[5]'h = I c.ef.m := rfl
@[go_sem ↓] theorem z7t (ρ : Operand → Value) (dst : Option Tmp) (x : Operand) (ty : TypeId) (pos : String) (after : Array Edge) (guard : Option (Nat × Bool)) :
 execOp ρ { dst, op := .load 182 x, type := ty, pos, after, guard } = za3 182 (ρ x) := rfl
@[go_sem ↓] theorem z57 (ρ : Operand → Value) (dst : Option Tmp) (x y : Operand) (ty : TypeId) (pos : String) (after : Array Edge) (guard : Option (Nat × Bool)) :
 execOp ρ { dst, op := .store 182 x y, type := ty, pos, after, guard } = zaz 182 (ρ x) (ρ y) := rfl
@[go_sem] theorem zx0 (w : World) (b o : Nat) (h : o + 8 ≤ (w.blk b).size) : (za3 182 (.pointer (some ⟨b, o, none⟩))).run Tryz.prog w = .ok (.value (.agg (sub (w.blk b) o 8))) w :=
 zaw w b o 182 8 (by kernel_rfl) (by kernel_rfl) h (by omega)
@[go_sem] theorem zu8 (w : World) (b : Nat) (cs : Array Value) (h : (w.blk b).size = 8) (hc : cs.size = 8) (h1 : zai cs = true) (hf : w.free b = true) : (zaz 182 (.pointer (some ⟨b, 0, none⟩)) (.agg cs)).run Tryz.prog w = .ok .skip (w.setRow b cs) :=
 zax w b 182 8 _ (by kernel_rfl) h hc (by omega) hf h1
@[go_sem ↓] theorem z46 (ρ : Operand → Value) (dst : Option Tmp) (parts : Array (Nat × Operand)) (ty : TypeId) (pos : String) (after : Array Edge) (guard : Option (Nat × Bool)) :
 execOp ρ { dst, op := .build 182 parts, type := ty, pos, after, guard } = za0 182 (parts.map fun (i, x) => (i, ρ x)) := rfl
@[go_sem] theorem z5a (t : TypeId) (fr : Nat × Nat) : Obj.cells #[Value.int .i64 0, Value.int .i64 0, Value.int .i64 0, Value.int .i64 0, Value.int .i64 0, Value.int .i64 0, Value.int .i64 0, .slice none 0 0] t fr = .cells (StV.arr ⟨0, 0, 0, ⟨0, 0, 0, 0, .nil⟩⟩) t fr := rfl
@[go_sem] theorem zuy (w : World) (a b c : Int) (e : EfV) : (za0 182 #[(0, .int .i64 a), (1, .int .i64 b), (2, .int .i64 c), (3, .agg e.arr)]).run Tryz.prog w = .ok (.value (.agg (StV.arr ⟨a, b, c, e⟩))) w := by
 obtain ⟨op, n, m, who, s⟩ := e; cases s <;> kernel_rfl
@[go_sem ↓] theorem zzk (ρ : Operand → Value) (dst : Option Tmp) (n : Nat) (parts : Array (Nat × Operand)) (ty : TypeId) (pos : String) (after : Array Edge) (guard : Option (Nat × Bool)) :
 execOp ρ { dst, op := .buildSlice 179 n parts, type := ty, pos, after, guard } = zdh 179 n (parts.map fun (i, x) => (i, ρ x)) := rfl
@[go_sem] theorem z20 (w : World) (a : StV) : (zdh 179 1 #[(0, .agg a.arr)]).run Tryz.prog w = .ok (.value (.slice (some ⟨w.heap.size, 0, none⟩) 1 1)) (w.alloc (.cells a.arr 182)) := by
 obtain ⟨x, y, z, ⟨op, n, m, who, s⟩⟩ := a; cases s <;> kernel_rfl
@[go_sem] theorem zwx (w : World) (s : Sl) (q : IntKind) (i : Int) (h0 : 0 ≤ i) (h1 : i < s.n) : (Instr.indexAt 179 s.val (.int q i)).run Tryz.prog w = .ok (.pointer (some ⟨s.b, s.o + i.toNat * 8, none⟩)) w :=
 zbh w Tryz.underlying179 (fun w => (by kernel_rfl : (sizeOf 182).run Tryz.prog w = .ok 8 w)) s q i h0 h1
structure StN where
 src : Int
 ctl : Int
 grp : Int
 op : Int
 n : Int
 m : Int
def StV.n (a : StV) : StN := ⟨a.src, a.ctl, a.grp, a.ef.op, a.ef.n, a.ef.m⟩
def zih (S : St) (d : Nat) (i : Int) : StN := let a := (zbj S d).abs.getD i.toNat ⟨0, 0, 0, 0, 0⟩; ⟨d, gt (rowAt S.objs d) 2, a.grp, a.op, a.n, a.m⟩
def zgo (S : St) (id : Int) : List StN := (usesN (zbj S id.toNat).abs 5).map (zih S id.toNat)
def z96 (S : St) (k : Nat) : List StN := ((S.list 8).take k).flatMap (zgo S)
def zcn (S : St) : List StN := (S.list 8).flatMap (zgo S)
theorem zyu (S : St) (k : Nat) (h : k < (S.list 8).length) : z96 S (k + 1) = z96 S k ++ zgo S (gt (S.list 8) k) := by
 unfold z96
 rw [zfs _ _ h, List.flatMap_append]
 simp
theorem zgw (n : Nat) : (zcs n).abs.length ≤ 2 := by
 unfold zcs
 split
 · unfold zyp; split <;> simp
 split
 · unfold z4w; (repeat' split) <;> simp
 split
 · simp
 split
 · simp
 split
 · unfold zq9
   split
   · simp
   split
   · simp
   · have : ∀ d, d ∈ zv1 ++ z7o → d.abs.length ≤ 2 := by decide
     rw [List.getD]
     cases h : (zv1 ++ z7o)[n - 100]? with
     | none => simp
     | some d => exact this d (List.mem_of_getElem? h)
 · simp [z58]
theorem zlu (S : St) (d : Nat) : (zbj S d).abs.length ≤ 2 := zgw _
theorem zhq (m : List AbN) (wh : Int) : (usesN m wh).length ≤ m.length := by
 unfold usesN zem
 rw [List.length_map]
 have h : ((List.range m.length).filter fun i => (m.getD i ⟨0, 0, 0, 0, 0⟩).wh == wh).length ≤ (List.range m.length).length := List.length_filter_le _ _
 simpa using h
end Go.Proofs.YthfalocligkamaaGreatDoor
