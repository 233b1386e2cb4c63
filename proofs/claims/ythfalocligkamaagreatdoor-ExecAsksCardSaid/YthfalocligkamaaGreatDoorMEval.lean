/- The walk of statics. -/
import Derived.Test.YthfalocligkamaaGreatDoorMUses
namespace Go.Proofs.YthfalocligkamaaGreatDoor
open Go Go.RowKit
theorem CardOk.stat {own : Nat → Prop} {w w2 wr : World} {n : Nat} {c : CdV} {d : CardN} (h : CardOk w n c d) (g : Grow w w2) (hk : Kept own w2 wr) (ho : ∀ b, n ≤ b → b < w.heap.size → ¬ own b) {i : Nat} (hi : i < d.abs.length) (hw : (d.abs.getD i ⟨0, 0, 0, 0, 0⟩).wh = 5) :
 ∃ (a : AbV) (who : Int) (s : Sl), c.abs.n = d.abs.length ∧ n ≤ c.abs.b ∧ c.abs.b < wr.heap.size ∧ c.abs.o + i * 14 + 14 ≤ (wr.blk c.abs.b).size ∧ sub (wr.blk c.abs.b) (c.abs.o + i * 14 + 9) 5 = a.ef.arr ∧ a.ef.n = (d.abs.getD i ⟨0, 0, 0, 0, 0⟩).grp ∧
   n ≤ a.ef.subs.b ∧ a.ef.subs.b < wr.heap.size ∧ a.ef.subs.n = 1 ∧ a.ef.subs.o + 5 ≤ (wr.blk a.ef.subs.b).size ∧ sub (wr.blk a.ef.subs.b) a.ef.subs.o 5 = EfV.arr ⟨(d.abs.getD i ⟨0, 0, 0, 0, 0⟩).op, (d.abs.getD i ⟨0, 0, 0, 0, 0⟩).n, (d.abs.getD i ⟨0, 0, 0, 0, 0⟩).m, who, s⟩ := by
 obtain ⟨a, q0, q1, q2, q3, q4, q5⟩ := h.ab hi
 obtain ⟨p1, p2, who, s, p3⟩ := q5.2 hw
 obtain ⟨l, h1, h0, h2⟩ := h.abs
 have hl : l ≠ [] := by
  rintro rfl
  have := h2.get.1
  simp at this
  omega
 have hcb : n ≤ c.abs.b := by rcases h0 with h | h; exact absurd h hl; exact h
 obtain ⟨r1, r2, r3⟩ := p3.at (by decide) (i := 0) rfl
 have hs2 := g.size
 have e1 : wr.blk c.abs.b = w.blk c.abs.b := by rw [hk.blk _ (by omega) (ho _ hcb q1), zfu g q1]
 have e2 : wr.blk a.ef.subs.b = w.blk a.ef.subs.b := by rw [hk.blk _ (by omega) (ho _ p2 r1), zfu g r1]
 have hs3 := hk.size
 rw [Nat.zero_mul, Nat.add_zero] at r2 r3
 refine ⟨a, who, s, q0, hcb, by omega, by rw [e1]; exact q2, by rw [e1]; exact q4, p1, p2, by omega, p3.len, by rw [e2]; exact r2, by rw [e2]; exact r3⟩
@[go_sem] theorem z62 (a b c : Int) (e : EfV) : Array.foldl (fun (cs : Array Value) (x : Value × Nat) => cs.setIfInBounds (3 + x.snd) x.fst) #[I a, I b, I c, Value.int .i64 0, Value.int .i64 0, Value.int .i64 0, Value.int .i64 0, Value.slice none 0 0] e.arr.zipIdx 0 5 = StV.arr ⟨a, b, c, e⟩ := by
 obtain ⟨op, n, m, who, s⟩ := e
 rfl
set_option maxRecDepth 100000 in
set_option maxHeartbeats 4000000 in
theorem zp5 (S : St) (V : SV) (w : World) (R : RepSt w V S) (hR : Right S) (hS : Small S) :
 Calls Tryz.prog 148 #[.agg (stA V S.num)] w fun e w' => ∃ (s : Sl) (l : List StV), e = .returned s.val ∧ RowsV w' s 8 (l.map StV.arr) ∧ l.map StV.n = zcn S ∧ (∀ b, s.owns b → w.heap.size ≤ b) ∧ Grow w w' := by
 have hN := R.objs.len
 have hL := (R.list 8 (by decide)).len
 have hSL := hS.list 8 (by decide)
 have HR := Lib.hid R
 have HH := Lib.hid hR
 clear R hR hS
 go_enter Tryz.func148, Tryz.ntmps148
 go_wp2_with fail
 go_loopw [3, 14] (fun v i wr => ∃ (k : Nat) (s : Sl) (l : List StV), k ≤ (S.list 8).length ∧ i = .int .i64 k ∧ v = s.val ∧ Hid (Made (w.alloc (.cells (stA V S.num) 29)).heap.size wr s 8 (zda (l.map StV.arr)) ∧ l.map StV.n = z96 S k) ∧ s.n ≤ 2 * k ∧ Grow (w.alloc (.cells (stA V S.num) 29)) wr) (fun _ i _ => (S.list 8).length - (intOf i).toNat)
 case atStart => exact ⟨0, .nil, [], by omega, rfl, rfl, ⟨Made.nil _ _ _, rfl⟩, by simp [Sl.n], grI⟩
 case round =>
  obtain ⟨k, s, l, hk, rfl, rfl, HM, hsn, hG⟩ := hrel
  obtain ⟨x, rfl⟩ := hG
  by_cases hlt : k < (S.list 8).length
  · obtain ⟨hlb, hlc⟩ := (HR.out.list 8 (by decide)).at k hlt
    obtain ⟨o1, o2, _, _⟩ := HH.out.zon.ok 8 (by decide) (gt (S.list 8) k) (by rw [zcw _ _ hlt]; exact List.getElem_mem hlt)
    have HST := Lib.hid (zyu S k hlt)
    generalize hid : gt (S.list 8) k = id at *
    obtain ⟨d, rfl⟩ := Int.eq_ofNat_of_zero_le o1
    have hd : d < S.objs.length := by omega
    have HID := Lib.hid hid
    clear hid o1 o2
    go_wp2_with (first | (go_at_call 97; refine (zlv S V _ (HR.out.grow grI) HH.out d hd).mono ?_; rintro e' w1 ⟨c, rfl, hc, hg1⟩; have HC := Lib.hid (And.intro hc hg1); clear hc hg1) | (go_at_call 144; refine (zmm _ c (zbj S d) _ (HC.out.1.grow grI) 5 (Nat.le_trans (zlu S d) (by decide))).mono ?_; rintro e' w2 ⟨su, rfl, hI, hO, hg2⟩; have HU := Lib.hid (And.intro hI (And.intro hO hg2)); have hun := hI.len; clear hI hO hg2))
    have hu2 : (usesN (zbj S d).abs 5).length ≤ 2 := Nat.le_trans (zhq _ _) (zlu S d)
    generalize hu : usesN (zbj S d).abs 5 = u at *
    have HUU := Lib.hid hu
    clear hu
    go_loopw [3, 24] (fun v i wr => ∃ (j : Nat) (s : Sl) (l : List StV), j ≤ u.length ∧ i = .int .i64 j ∧ v = s.val ∧ Hid (Made (w.alloc (.cells (stA V S.num) 29)).heap.size wr s 8 (zda (l.map StV.arr)) ∧ l.map StV.n = z96 S k ++ (u.take j).map (zih S d) ∧
     (∀ b, s.owns b → b < ((w.alloc (.cells (stA V S.num) 29)).plus x).heap.size ∨ w2.heap.size ≤ b) ∧ Kept (fun b => (w.alloc (.cells (stA V S.num) 29)).heap.size ≤ b ∧ (b < ((w.alloc (.cells (stA V S.num) 29)).plus x).heap.size ∨ w2.heap.size ≤ b)) w2 wr) ∧ s.n ≤ 2 * k + j ∧ Grow (w.alloc (.cells (stA V S.num) 29)) wr) (fun _ i _ => u.length - (intOf i).toNat)
    case atStart =>
     have g1 : Grow (w.alloc (.cells (stA V S.num) 29)) w2 := (Grow.plus (Grow.refl _) x).trans (HC.out.2.trans (((Grow.refl w1).alloc _).trans HU.out.2.2))
     have g2 : Grow ((w.alloc (.cells (stA V S.num) 29)).plus x) w2 := HC.out.2.trans (((Grow.refl w1).alloc _).trans HU.out.2.2)
     exact ⟨0, s, l, by omega, rfl, rfl, ⟨HM.out.1.grow g2, by rw [List.take_zero, List.map_nil, List.append_nil]; exact HM.out.2, fun b hb => .inl (HM.out.1.own b hb).2, Kept.refl _ _⟩, by omega, g1⟩
    case round =>
     obtain ⟨j, s, l, hj, rfl, rfl, HM2, hsn2, hG⟩ := hrel
     obtain ⟨y, rfl⟩ := hG
     clear HM hsn
     by_cases hjt : j < u.length
     · obtain ⟨i, hi1, hi2, hi3⟩ := zrd (zbj S d).abs 5 (gt u j) (by rw [HUU.out, zcw _ _ hjt]; exact List.getElem_mem hjt)
       obtain ⟨a, who, s0, q1, q2, q3, q4, q5, q6, q7, q8, q9, q10, q11⟩ := HC.out.1.stat (((Grow.refl w1).alloc _).trans HU.out.2.2) HM2.out.2.2.2 (fun b h1 h2 h3 => by
        have e1 := HU.out.2.2.size
        rw [zaa] at e1
        omega) hi2 hi3
       obtain ⟨hob, how, hosz, hosub, hocell⟩ := (HR.out.objs).at (by omega) d hd
       have hoc := hocell 2 (by omega)
       have hd' : (d : Int) < S.objs.length := by omega
       clear hocell hosub
       have HSO : Hid (zih S d (gt u j) = ⟨d, gt (rowAt S.objs d) 2, ((zbj S d).abs.getD i ⟨0, 0, 0, 0, 0⟩).grp, ((zbj S d).abs.getD i ⟨0, 0, 0, 0, 0⟩).op, ((zbj S d).abs.getD i ⟨0, 0, 0, 0, 0⟩).n, ((zbj S d).abs.getD i ⟨0, 0, 0, 0, 0⟩).m⟩) := by
        rw [Hid, zih, hi1, Int.toNat_natCast]
       generalize gt (rowAt S.objs d) 2 = ctl at *
       generalize (zbj S d).abs.getD i ⟨0, 0, 0, 0, 0⟩ = bn at *
       have hin : i < c.abs.n := by omega
       have hin' : (i : Int) < c.abs.n := by omega
       have HI := HU.out.1.at j hjt
       have hsz1 := HC.out.2.size
       have hsz2 := HU.out.2.2.size
       have hsz3 := HM2.out.2.2.2.size
       have hsub : w1.heap.size + 1 ≤ su.b := by
        have := HU.out.2.1 su.b (Sl.owns_b (by omega))
        rwa [zaa] at this
       have f1 : ((w.alloc (.cells (stA V S.num) 29)).plus y).cell? ⟨w1.heap.size, 12, none⟩ = some c.abs.val := by
        rw [HM2.out.2.2.2.cell _ _ (by rw [zaa] at hsz2; omega) (by rw [zaa] at hsz2; omega)]
        obtain ⟨z, hz⟩ := HU.out.2.2
        rw [hz, zc4 _ _ _ _ (by rw [zaa]; omega), zbu, if_pos rfl]
        rfl
       have f2 : ((w.alloc (.cells (stA V S.num) 29)).plus y).cell? ⟨su.b, su.o + j, none⟩ = some (I i) := by
        rw [HM2.out.2.2.2.cell _ _ HI.1 (by have := HI.1; rw [zac] at *; omega), HI.2, hi1]
       have hsu2 := HI.1
       clear HI hi1 hi2 hi3
       simp only [zac, zaa] at q2 q3 q7 q8 hsz1 hsz2 hsz3 hsu2
       have r1 : w.heap.size + 1 ≤ c.abs.b := by omega
       have r2 : w.heap.size + 1 ≤ a.ef.subs.b := by omega
       have r3 : w.heap.size + 1 ≤ su.b := by omega
       have r4 : w.heap.size + 1 ≤ w1.heap.size := by omega
       have r5 : w1.heap.size < w.heap.size + 1 + y.objs.size := by omega
       have r6 : su.b < w.heap.size + 1 + y.objs.size := by omega
       have q4' : c.abs.o + i * 14 + 14 ≤ (zfd (w.alloc (.cells (stA V S.num) 29)) y c.abs.b).size := q4
       have q5' : sub (zfd (w.alloc (.cells (stA V S.num) 29)) y c.abs.b) (c.abs.o + i * 14 + 9) 5 = a.ef.arr := q5
       have q10' : a.ef.subs.o + 5 ≤ (zfd (w.alloc (.cells (stA V S.num) 29)) y a.ef.subs.b).size := q10
       have q11' : sub (zfd (w.alloc (.cells (stA V S.num) 29)) y a.ef.subs.b) a.ef.subs.o 5 = EfV.arr ⟨bn.op, bn.n, bn.m, who, s0⟩ := q11
       have f1' : zc8 (w.alloc (.cells (stA V S.num) 29)) y w1.heap.size 12 = some c.abs.val := f1
       have f2' : zc8 (w.alloc (.cells (stA V S.num) 29)) y su.b (su.o + j) = some (I i) := f2
       have HQ := Lib.hid (And.intro hsz1 (And.intro hsz2 hsz3))
       clear q4 q5 q10 q11 f1 f2 hsz1 hsz2 hsz3 q2 q7 q1
       go_wp2_with fail
       have n1 : ¬ V.objs.b = w.heap.size := by omega
       have n2 : ¬ a.ef.subs.b = w.heap.size + 1 + y.objs.size := by omega
       have n3 : ¬ a.ef.subs.b < w.heap.size + 1 := by omega
       have n4 : ¬ V.objs.b = w.heap.size + 1 + y.objs.size := by omega
       go_region_law (first | (refine zyw (by rfl) _ _ 179 rfl 182 Tryz.t182 (.agg (StV.arr ⟨0, 0, 0, ⟨0, 0, 0, 0, .nil⟩⟩)) 8 80 Tryz.underlying179 (by kernel_rfl) (by kernel_rfl) (by kernel_rfl) (by kernel_rfl) (by omega) rfl (w.alloc (.cells (stA V S.num) 29)) s (.mk _ 0 1 1) (zda (l.map StV.arr)) (zda [StV.arr ⟨d, ctl, bn.grp, ⟨bn.op, bn.n, bn.m, who, s0⟩⟩]) rfl rfl (HM2.out.1.grow grI) grI (RowsV.one (x := StV.arr _) (by go_simp) (by go_simp) (by go_simp)).cells (zdb (fun x hx => by obtain ⟨a, _, rfl⟩ := List.mem_map.1 hx; exact StV.one a)) (zdb (by simp [StV.one])) (by show s.n + 1 ≤ 4194304; omega) ?_; intro s3 y3 c1 c2 c3 c4; have C := Lib.hid (And.intro c1 (And.intro c2 (And.intro c3 c4))); clear c1 c2 c3 c4))
       all_goals go_wp2_with fail
       all_goals go_roundw
       all_goals first
        | (simp [intOf]; omega)
        | (have hb3 : s3.n = s.n + 1 := C.out.2.2.1
           refine ⟨j + 1, s3, l ++ [⟨d, ctl, bn.grp, ⟨bn.op, bn.n, bn.m, who, s0⟩⟩], by omega, by go_num, rfl, ⟨by rw [List.map_append, zeg]; exact C.out.1, ?_, fun b hb => (C.out.2.2.2 b hb).elim (HM2.out.2.2.1 b) (fun h => .inr (by simp only [zaa, zac, zar] at h; have := HQ.out.2.2; omega)), ?_⟩, by omega, grI⟩
           · rw [List.map_append, HM2.out.2.1, zfs _ _ hjt, List.map_append, List.append_assoc]
             rw [show List.map (zih S d) [gt u j] = [zih S d (gt u j)] from rfl, HSO.out]
             rfl
           · exact (HM2.out.2.2.2.trans (o2 := fun _ => False) (Grow.kept _ (show Grow ((w.alloc (.cells (stA V S.num) 29)).plus y) _ from grI)) (fun _ _ h => h.elim)).trans (o2 := s.owns) C.out.2.1 (fun b _ hb => ⟨(HM2.out.1.own b hb).1, HM2.out.2.2.1 b hb⟩))
     · go_wp2_with fail
       go_roundw
       case rel =>
        refine ⟨k + 1, s, l, by omega, by go_num, rfl, ⟨HM2.out.1.grow grI, ?_⟩, by omega, grI⟩
        rw [HM2.out.2.1, HST.out, zgo, Int.toNat_natCast, HUU.out, List.take_of_length_le (by omega)]
       case measure => simp [intOf]; omega
  · go_wp2_with fail
    go_ret
    refine ⟨s, l, rfl, Cells.rowsV (HM.out.1.cells.grow grI) (by decide) (fun x hx => by obtain ⟨a, _, rfl⟩ := List.mem_map.1 hx; exact StV.size a), ?_, fun b hb => Nat.le_trans (by rw [zaa]; omega) (HM.out.1.own b hb).1, grI⟩
    rw [HM.out.2, z96, zcn, List.take_of_length_le (by omega)]
end Go.Proofs.YthfalocligkamaaGreatDoor
namespace Go.Proofs.YthfalocligkamaaGreatDoor
open Go Go.RowKit
@[go_sem ↓] theorem z9z (ρ : Operand → Value) (dst : Option Tmp) (x : Operand) (ty : TypeId) (pos : String) (after : Array Edge) (guard : Option (Nat × Bool)) :
 execOp ρ { dst, op := .load 119 x, type := ty, pos, after, guard } = za3 119 (ρ x) := rfl
@[go_sem ↓] theorem z84 (ρ : Operand → Value) (dst : Option Tmp) (x y : Operand) (ty : TypeId) (pos : String) (after : Array Edge) (guard : Option (Nat × Bool)) :
 execOp ρ { dst, op := .store 119 x y, type := ty, pos, after, guard } = zaz 119 (ρ x) (ρ y) := rfl
@[go_sem] theorem zkj (w : World) (b o : Nat) (h : o + 3 ≤ (w.blk b).size) : (za3 119 (.pointer (some ⟨b, o, none⟩))).run Tryz.prog w = .ok (.value (.agg (sub (w.blk b) o 3))) w :=
 zaw w b o 119 3 (by kernel_rfl) (by kernel_rfl) h (by omega)
@[go_sem] theorem zya (w : World) (b : Nat) (cs : Array Value) (h : (w.blk b).size = 3) (hc : cs.size = 3) (h1 : zai cs = true) (hf : w.free b = true) : (zaz 119 (.pointer (some ⟨b, 0, none⟩)) (.agg cs)).run Tryz.prog w = .ok .skip (w.setRow b cs) :=
 zax w b 119 3 _ (by kernel_rfl) h hc (by omega) hf h1
@[go_sem ↓] theorem z6m (ρ : Operand → Value) (dst : Option Tmp) (parts : Array (Nat × Operand)) (ty : TypeId) (pos : String) (after : Array Edge) (guard : Option (Nat × Bool)) :
 execOp ρ { dst, op := .build 119 parts, type := ty, pos, after, guard } = za0 119 (parts.map fun (i, x) => (i, ρ x)) := rfl
@[go_sem] theorem zxv (w : World) (a b c : Int) : (za0 119 #[(0, .int .i64 a), (1, .int .i64 b), (2, .int .i64 c)]).run Tryz.prog w = .ok (.value (.agg (cellsOf [a, b, c]))) w := by kernel_rfl
@[go_sem] theorem zuv (w : World) (a b : Int) : (za0 119 #[(0, .int .i64 a), (1, .int .i64 b)]).run Tryz.prog w = .ok (.value (.agg (cellsOf [a, b, 0]))) w := by kernel_rfl
theorem zg5 (w : World) (b : Nat) (h : (w.blk b).size = 3) : (loadVar 119 ⟨b, 0, none⟩).run Tryz.prog w = .ok (.agg (sub (w.blk b) 0 3)) w := by
 have := zkj w b 0 (by omega)
 unfold za3 at this
 rw [Sem.run_bind] at this
 simp only [Instr.loadAt, Instr.sureAddr, Sem.run_bind, Sem.run_pure, Result.andThen_ok] at this
 cases hr : (loadVar 119 ⟨b, 0, none⟩).run Tryz.prog w with
 | ok v w' => rw [hr] at this; simp at this; rw [this.1, this.2]
 | halt x w' => rw [hr] at this; simp [Result.andThen] at this
theorem zma {fn : Func} {p : Tmp} (h : fn.results = #[.cell p 119]) (tmps : Array Value) (w : World) (b : Nat) (hp : tmps.getD p undef = .pointer (some ⟨b, 0, none⟩)) (h1 : (w.blk b).size = 3) :
 (results fn tmps).run Tryz.prog w = .ok (.agg (sub (w.blk b) 0 3)) w := by
 unfold results
 rw [h]
 have e1 := zg5 w b h1
 have hp' : tmps[p]?.getD undef = .pointer (some ⟨b, 0, none⟩) := by simpa using hp
 simp [asAddr, hp', e1]
theorem zgc {fn : Func} {p q : Tmp} (h : fn.results = #[.cell p 119, .tmp q]) (tmps : Array Value) (w : World) (b : Nat) (hp : tmps.getD p undef = .pointer (some ⟨b, 0, none⟩)) (h1 : (w.blk b).size = 3) :
 (results fn tmps).run Tryz.prog w = .ok (.tuple #[.agg (sub (w.blk b) 0 3), tmps.getD q undef]) w := by
 unfold results
 rw [h]
 have e1 := zg5 w b h1
 have hp' : tmps[p]?.getD undef = .pointer (some ⟨b, 0, none⟩) := by simpa using hp
 simp [asAddr, hp', e1]
def zf1 (S : St) (x : StN) (d : Nat) : Bool :=
 if x.grp = 0 then true else if x.grp = 1 then gt (rowAt S.objs d) 2 == x.ctl else if x.grp = 2 then !(gt (rowAt S.objs d) 2 == x.ctl) else (gt (rowAt S.objs d) 2 == x.ctl) && !((d : Int) == x.src)
set_option maxRecDepth 100000 in
set_option maxHeartbeats 1000000 in
theorem zpo (S : St) (V : SV) (w : World) (R : RepSt w V S) (x : StV) (d : Nat) (hd : d < S.objs.length) :
 Calls Tryz.prog 149 #[.agg x.arr, .agg (stA V S.num), .int .i64 (d : Int)] w fun e w' => e = .returned (.bool (zf1 S x.n d)) ∧ Grow w w' := by
 have hN := R.objs.len
 obtain ⟨hob, how, hosz, hosub, hocell⟩ := R.objs.at (by omega) d hd
 have hoc := hocell 2 (by omega)
 have hd' : (d : Int) < S.objs.length := by omega
 have HX : Hid (zf1 S x.n d = if x.grp = 0 then true else if x.grp = 1 then gt (rowAt S.objs d) 2 == x.ctl else if x.grp = 2 then !(gt (rowAt S.objs d) 2 == x.ctl) else (gt (rowAt S.objs d) 2 == x.ctl) && !((d : Int) == x.src)) := rfl
 clear hocell hosub hosz R
 generalize gt (rowAt S.objs d) 2 = ctl at *
 cases hs : (ctl == x.ctl) with
 | true =>
   go_enter Tryz.func149, Tryz.ntmps149
   go_wp2_with fail
   refine zab (by kernel_rfl) (by kernel_rfl) ?_; (repeat (go_big_quiet_step ( fail ))); refine wpQuiet_nil ?_; rintro _ ⟨nx, rfl⟩
   go_wp2_with fail
   all_goals go_ret
   all_goals exact ⟨zao (by rw [HX.out, hs]; simp_all <;> rfl), grI⟩
 | false =>
   go_enter Tryz.func149, Tryz.ntmps149
   go_wp2_with fail
   refine zab (by kernel_rfl) (by kernel_rfl) ?_; (repeat (go_big_quiet_step ( fail ))); refine wpQuiet_nil ?_; rintro _ ⟨nx, rfl⟩
   go_wp2_with fail
   all_goals go_ret
   all_goals exact ⟨zao (by rw [HX.out, hs]; simp_all <;> rfl), grI⟩
structure Evl where
 p : Int
 t : Int
 w : Int
 mp : Int
 mt : Int
def zef (S : St) (d : Nat) (e : Evl) (x : StN) : Evl :=
 if zf1 S x d = false then e
 else if x.op = 24 then { e with p := x.n, t := x.m }
 else if x.op = 10 then { e with mp := wrap64 (e.mp + x.n), mt := wrap64 (e.mt + x.m) }
 else if x.op = 23 then { e with w := bits .or .i64 e.w x.n }
 else if x.op = 25 then { e with w := bits .andNot .i64 e.w x.n }
 else e
def ev0 (S : St) (d : Nat) : Evl := ⟨(zbj S d).pw, (zbj S d).tf, (zbj S d).says, gt (rowAt S.objs d) 7 + gt (rowAt S.objs d) 8, gt (rowAt S.objs d) 7 + gt (rowAt S.objs d) 9⟩
def evTo (S : St) (d : Nat) (k : Nat) : Evl := ((zcn S).take k).foldl (zef S d) (ev0 S d)
def evN (S : St) (d : Nat) : Evl := (zcn S).foldl (zef S d) (ev0 S d)
def shapeN (S : St) (d : Nat) : List Int := [wrap64 ((evN S d).p + (evN S d).mp), wrap64 ((evN S d).t + (evN S d).mt), bits .or .i64 (evN S d).w (gt (rowAt S.objs d) 10)]
theorem zwc (S : St) (d k : Nat) (x : StN) (h : (zcn S)[k]? = some x) : evTo S d (k + 1) = zef S d (evTo S d k) x := by
 unfold evTo
 rw [List.take_add_one, h, List.foldl_append]
 rfl
theorem Right.o7 {S : St} (h : Right S) {d : Nat} (hd : d < S.objs.length) : (0 ≤ gt (rowAt S.objs d) 7 ∧ gt (rowAt S.objs d) 7 ≤ 1073741824) ∧ (-1073741824 ≤ gt (rowAt S.objs d) 8 ∧ gt (rowAt S.objs d) 8 ≤ 1073741824) ∧ (-1073741824 ≤ gt (rowAt S.objs d) 9 ∧ gt (rowAt S.objs d) 9 ≤ 1073741824) :=
 ⟨h.num hd (f := 7) (by decide), h.num hd (f := 8) (by decide), h.num hd (f := 9) (by decide)⟩
theorem zii (S : St) : (zcn S).length ≤ 2 * (S.list 8).length := by
 unfold zcn
 induction S.list 8 with
 | nil => simp
 | cons x l ih =>
   rw [List.flatMap_cons, List.length_append, List.length_cons]
   have h1 : (zgo S x).length ≤ 2 := by
    unfold zgo
    rw [List.length_map]
    exact Nat.le_trans (zhq _ _) (zlu S _)
   omega
set_option maxRecDepth 100000 in
set_option maxHeartbeats 4000000 in
theorem z02 (S : St) (V : SV) (w : World) (R : RepSt w V S) (hR : Right S) (hS : Small S) (d : Nat) (hd : d < S.objs.length) :
 Calls Tryz.prog 121 #[.agg (stA V S.num), .int .i64 (d : Int)] w fun e w' => e = .returned (.agg (cellsOf (shapeN S d))) ∧ Grow w w' := by
 have hN := R.objs.len
 obtain ⟨hob, how, hosz, hosub, hocell⟩ := R.objs.at (by omega) d hd
 obtain ⟨⟨t1, t2⟩, ⟨t3, t4⟩, t5, t6⟩ := hR.o7 hd
 have hd' : (d : Int) < S.objs.length := by omega
 have HR := Lib.hid R
 have HH := Lib.hid hR
 have HS := Lib.hid hS
 have HE : Hid (ev0 S d = ⟨(zbj S d).pw, (zbj S d).tf, (zbj S d).says, gt (rowAt S.objs d) 7 + gt (rowAt S.objs d) 8, gt (rowAt S.objs d) 7 + gt (rowAt S.objs d) 9⟩) := rfl
 have HF : Hid (shapeN S d = [wrap64 ((evN S d).p + (evN S d).mp), wrap64 ((evN S d).t + (evN S d).mt), bits .or .i64 (evN S d).w (gt (rowAt S.objs d) 10)]) := rfl
 clear hocell R hR hS
 generalize rowAt S.objs d = row at *
 have n1 : ¬ V.objs.b = w.heap.size := by omega
 go_enter Tryz.func121, Tryz.ntmps121
 go_wp2_with fail
 rename (Act → World → Prop) => K
 rename (∀ a w, _ → _) => hK
 have key : ∀ (X : Ext) (b5 b6 : Nat) (c : CdV), c.pw = (zbj S d).pw ∧ c.tf = (zbj S d).tf ∧ c.says = (zbj S d).says →
  w.heap.size + 2 ≤ b5 → b5 < (((w.alloc (.cells (stA V S.num) 29)).alloc (.cells (cellsOf [0, 0, 0]) 119)).plus X).heap.size → (((w.alloc (.cells (stA V S.num) 29)).alloc (.cells (cellsOf [0, 0, 0]) 119)).plus X).cell? ⟨b5, 9, none⟩ = some (I c.pw) → (((w.alloc (.cells (stA V S.num) 29)).alloc (.cells (cellsOf [0, 0, 0]) 119)).plus X).cell? ⟨b5, 10, none⟩ = some (I c.tf) → (((w.alloc (.cells (stA V S.num) 29)).alloc (.cells (cellsOf [0, 0, 0]) 119)).plus X).cell? ⟨b5, 11, none⟩ = some (I c.says) →
  w.heap.size + 2 ≤ b6 → b6 < (((w.alloc (.cells (stA V S.num) 29)).alloc (.cells (cellsOf [0, 0, 0]) 119)).plus X).heap.size → (((w.alloc (.cells (stA V S.num) 29)).alloc (.cells (cellsOf [0, 0, 0]) 119)).plus X).blk b6 = cellsOf row → (((w.alloc (.cells (stA V S.num) 29)).alloc (.cells (cellsOf [0, 0, 0]) 119)).plus X).free b6 = true →
  K { tmps := #[.agg (stA V S.num), .int .i64 (d : Int), .pointer (some ⟨w.heap.size, 0, none⟩), undef, .pointer (some ⟨w.heap.size + 1, 0, none⟩), .pointer (some ⟨b5, 0, none⟩), .pointer (some ⟨b6, 0, none⟩), undef, undef, undef, undef, .agg (stA V S.num), .int .i64 (d : Int), .agg c.arr, .pointer (some ⟨w.heap.size, 0, none⟩), V.objs.val, .int .i64 (d : Int), .pointer (some ⟨V.objs.b, V.objs.o + d * 18, none⟩), .agg (cellsOf row), undef, undef, undef, undef, undef, undef, undef, undef, undef, undef, undef, undef, undef, undef, undef, undef, undef, undef, undef, undef, undef, undef, undef, undef, undef, undef, undef, undef, undef, undef, undef, undef, undef, undef, undef, undef, undef, undef, undef, undef, undef, undef, undef, undef, undef, undef, undef, undef, undef, undef, undef, undef, undef, undef, undef, undef, undef, undef, undef, undef, undef, undef, undef, undef, undef, undef, undef, undef, undef, undef, undef, undef, undef, undef, undef, undef, undef, undef, undef, undef, undef, undef, undef, undef, undef, undef, undef, undef, undef, undef, undef, undef, undef, undef], defers := [] } (((w.alloc (.cells (stA V S.num) 29)).alloc (.cells (cellsOf [0, 0, 0]) 119)).plus X) := by
  intro X b5 b6 c hck g1 g2 g3 g4 g5 g6 g7 g8 g9
  have hc6 := fun j => zaf g9 g8 j
  have h7 := (hc6 7).trans (za5 _ _ (by omega))
  have h8 := (hc6 8).trans (za5 _ _ (by omega))
  have h9 := (hc6 9).trans (za5 _ _ (by omega))
  have h10 := (hc6 10).trans (za5 _ _ (by omega))
  clear hc6 g8 g9
  have g3' : zc8 ((w.alloc (.cells (stA V S.num) 29)).alloc (.cells (cellsOf [0, 0, 0]) 119)) X b5 9 = some (I c.pw) := g3
  have g4' : zc8 ((w.alloc (.cells (stA V S.num) 29)).alloc (.cells (cellsOf [0, 0, 0]) 119)) X b5 10 = some (I c.tf) := g4
  have g5' : zc8 ((w.alloc (.cells (stA V S.num) 29)).alloc (.cells (cellsOf [0, 0, 0]) 119)) X b5 11 = some (I c.says) := g5
  have h7' : zc8 ((w.alloc (.cells (stA V S.num) 29)).alloc (.cells (cellsOf [0, 0, 0]) 119)) X b6 7 = some (I (gt row 7)) := h7
  have h8' : zc8 ((w.alloc (.cells (stA V S.num) 29)).alloc (.cells (cellsOf [0, 0, 0]) 119)) X b6 8 = some (I (gt row 8)) := h8
  have h9' : zc8 ((w.alloc (.cells (stA V S.num) 29)).alloc (.cells (cellsOf [0, 0, 0]) 119)) X b6 9 = some (I (gt row 9)) := h9
  have h10' : zc8 ((w.alloc (.cells (stA V S.num) 29)).alloc (.cells (cellsOf [0, 0, 0]) 119)) X b6 10 = some (I (gt row 10)) := h10
  simp only [zac, zaa] at g2 g7
  have m1 : ¬ b5 < w.heap.size + 1 + 1 := by omega
  have m2 : ¬ b6 < w.heap.size + 1 + 1 := by omega
  have g2' : b5 < w.heap.size + 1 + 1 + X.objs.size := g2
  have m3 : ¬ b5 = w.heap.size + 1 + 1 + X.objs.size := by omega
  have m4 : ¬ b6 = w.heap.size + 1 + 1 + X.objs.size := by omega
  have HCK : Hid (ev0 S d = ⟨c.pw, c.tf, c.says, gt row 7 + gt row 8, gt row 7 + gt row 9⟩) := by rw [Hid, HE.out, hck.1, hck.2.1, hck.2.2]
  clear g3 g4 g5 h7 h8 h9 h10 hck
  refine hK _ _ ?_
  clear hK K
  go_wp2_with (go_at_call 148; refine (zp5 S V _ (HR.out.grow grI) HH.out HS.out).mono ?_; rintro e' w' ⟨s, l, rfl, hr, hl, ho, ny, rfl⟩; have HL := Lib.hid (And.intro hr (And.intro hl ho)); have hsn := hr.len; clear hr hl ho)
  have hsn' : s.n = l.length := by rw [hsn, List.length_map]
  have hln : l.length ≤ 2097152 := by
   have h1 : l.length = (zcn S).length := by rw [← HL.out.2.1, List.length_map]
   have h2 := zii S
   have h3 := HS.out.list 8 (by decide)
   omega
  clear hsn
  go_loopw [40] (fun i wr => ∃ k : Nat, k ≤ l.length ∧ i = .int .i64 k ∧ Grow (((((w.alloc (.cells (stA V S.num) 29)).alloc (.cells (cellsOf [0, 0, 0]) 119)).plus X).alloc (.cells (cellsOf [(evTo S d k).p, (evTo S d k).t, (evTo S d k).w]) 119)).alloc (.cells (cellsOf [(evTo S d k).mp, (evTo S d k).mt, 0]) 119)) wr ∧ Hid (RowsV wr s 8 (l.map StV.arr))) (fun i _ => l.length - (intOf i).toNat)
  case atStart =>
   refine ⟨0, by omega, rfl, ?_, HL.out.1⟩
   rw [show evTo S d 0 = _ from HCK.out]
   exact grI
  case round =>
   obtain ⟨k, hk, rfl, hG, HRV⟩ := hrel
   have HST := fun x h => Lib.hid (zwc S d k x h)
   have HEV : Hid (k = l.length → evN S d = evTo S d k) := fun h => by
    have h1 : l.length = (zcn S).length := by rw [← HL.out.2.1, List.length_map]
    rw [evN, evTo, h, h1, List.take_length]
   generalize evTo S d k = e at *
   obtain ⟨Y, rfl⟩ := hG
   by_cases hlt : k < l.length
   · have hx : l[k]? = some l[k] := List.getElem?_eq_getElem hlt
     have HST := HST l[k].n (by rw [← HL.out.2.1, List.getElem?_map, hx]; rfl)
     generalize l[k] = x at *
     obtain ⟨q1, q2, q3⟩ := HRV.out.at (by decide) (i := k) (x := x.arr) (by rw [List.getElem?_map, hx]; rfl)
     have q0 := HL.out.2.2 s.b (Sl.owns_b (by omega))
     have q2' : s.o + k * 8 + 8 ≤ (zfd (((((w.alloc (.cells (stA V S.num) 29)).alloc (.cells (cellsOf [0, 0, 0]) 119)).plus X).alloc (.cells (cellsOf [e.p, e.t, e.w]) 119)).alloc (.cells (cellsOf [e.mp, e.mt, 0]) 119)) Y s.b).size := q2
     have q3' : sub (zfd (((((w.alloc (.cells (stA V S.num) 29)).alloc (.cells (cellsOf [0, 0, 0]) 119)).plus X).alloc (.cells (cellsOf [e.p, e.t, e.w]) 119)).alloc (.cells (cellsOf [e.mp, e.mt, 0]) 119)) Y s.b) (s.o + k * 8) 8 = x.arr := q3
     clear q2 q3
     simp only [zac, zaa] at q0 q1
     have q4 : ¬ s.b < w.heap.size + 1 + 1 + X.objs.size + 1 + 1 := by omega
     have hks : (k : Int) < s.n := by omega
     have hks' : k < s.n := by omega
     have HRC : Hid (∀ W, Grow w W → Calls Tryz.prog 149 #[.agg x.arr, .agg (stA V S.num), .int .i64 (d : Int)] W fun e w' => e = .returned (.bool (zf1 S x.n d)) ∧ Grow W w') := fun W g => zpo S V W (HR.out.grow g) x d hd
     cases hre : zf1 S x.n d with
     | false =>
       have HST2 : Hid (evTo S d (k + 1) = e) := by rw [Hid, HST.out, zef, if_pos hre]
       rw [hre] at HRC
       go_wp2_with (go_at_call 149; refine (HRC.out _ grI).mono ?_; rintro e' w' ⟨rfl, nr, rfl⟩)
       go_roundw
       case rel => exact ⟨k + 1, by omega, by go_num, by rw [HST2.out]; exact grI, HRV.out.grow grI⟩
       case measure => simp [intOf]; omega
     | true =>
       have hre' : ¬ zf1 S x.n d = false := by rw [hre]; decide
       rw [hre] at HRC
       have HRE := Lib.hid (And.intro hre hre')
       clear hre hre'
       by_cases h24 : x.ef.op = 24
       · have HST2 : Hid (evTo S d (k + 1) = { e with p := x.ef.n, t := x.ef.m }) := by
          rw [Hid, HST.out, zef, if_neg HRE.out.2, if_pos (show x.n.op = 24 from h24)]; rfl
         have HG : Hid (RowsV ((((((w.alloc (.cells (stA V S.num) 29)).alloc (.cells (cellsOf [0, 0, 0]) 119)).plus X).alloc (.cells (cellsOf [x.ef.n, x.ef.m, e.w]) 119)).alloc (.cells (cellsOf [e.mp, e.mt, 0]) 119)).plus Y) s 8 (l.map StV.arr)) := HRV.out.off (b := (((w.alloc (.cells (stA V S.num) 29)).alloc (.cells (cellsOf [0, 0, 0]) 119)).plus X).heap.size) (by repeat (first | exact Off.base _ _ _ _ rfl | refine Off.plus ?_ _ | refine Off.alloc ?_ _)) (by simp only [zac, zaa]; omega)
         go_wp2_with (go_at_call 149; refine (HRC.out _ grI).mono ?_; rintro e' w' ⟨rfl, nr, rfl⟩)
         go_region
         all_goals go_wp2_with fail
         all_goals go_roundw
         all_goals first
          | (simp [intOf]; omega)
          | exact ⟨k + 1, by omega, by go_num, by rw [HST2.out]; exact grI, HG.out.grow grI⟩
       · by_cases h10 : x.ef.op = 10
         · have HST2 : Hid (evTo S d (k + 1) = { e with mp := wrap64 (e.mp + x.ef.n), mt := wrap64 (e.mt + x.ef.m) }) := by
            rw [Hid, HST.out, zef, if_neg HRE.out.2, if_neg (show ¬ x.n.op = 24 from h24), if_pos (show x.n.op = 10 from h10)]; rfl
           have HG : Hid (RowsV ((((((w.alloc (.cells (stA V S.num) 29)).alloc (.cells (cellsOf [0, 0, 0]) 119)).plus X).alloc (.cells (cellsOf [e.p, e.t, e.w]) 119)).alloc (.cells (cellsOf [(wrap64 (e.mp + x.ef.n)), (wrap64 (e.mt + x.ef.m)), 0]) 119)).plus Y) s 8 (l.map StV.arr)) := HRV.out.off (b := ((((w.alloc (.cells (stA V S.num) 29)).alloc (.cells (cellsOf [0, 0, 0]) 119)).plus X).alloc (.cells (cellsOf [e.p, e.t, e.w]) 119)).heap.size) (by repeat (first | exact Off.base _ _ _ _ rfl | refine Off.plus ?_ _ | refine Off.alloc ?_ _)) (by simp only [zac, zaa]; omega)
           go_wp2_with (go_at_call 149; refine (HRC.out _ grI).mono ?_; rintro e' w' ⟨rfl, nr, rfl⟩)
           go_roundw
           case rel => exact ⟨k + 1, by omega, by go_num, by rw [HST2.out]; exact grI, HG.out.grow grI⟩
           case measure => simp [intOf]; omega
         · by_cases h23 : x.ef.op = 23
           · have HST2 : Hid (evTo S d (k + 1) = { e with w := bits .or .i64 e.w x.ef.n }) := by
              rw [Hid, HST.out, zef, if_neg HRE.out.2, if_neg (show ¬ x.n.op = 24 from h24), if_neg (show ¬ x.n.op = 10 from h10), if_pos (show x.n.op = 23 from h23)]; rfl
             have HG : Hid (RowsV ((((((w.alloc (.cells (stA V S.num) 29)).alloc (.cells (cellsOf [0, 0, 0]) 119)).plus X).alloc (.cells (cellsOf [e.p, e.t, (bits .or .i64 e.w x.ef.n)]) 119)).alloc (.cells (cellsOf [e.mp, e.mt, 0]) 119)).plus Y) s 8 (l.map StV.arr)) := HRV.out.off (b := (((w.alloc (.cells (stA V S.num) 29)).alloc (.cells (cellsOf [0, 0, 0]) 119)).plus X).heap.size) (by repeat (first | exact Off.base _ _ _ _ rfl | refine Off.plus ?_ _ | refine Off.alloc ?_ _)) (by simp only [zac, zaa]; omega)
             go_wp2_with (go_at_call 149; refine (HRC.out _ grI).mono ?_; rintro e' w' ⟨rfl, nr, rfl⟩)
             go_roundw
             case rel => exact ⟨k + 1, by omega, by go_num, by rw [HST2.out]; exact grI, HG.out.grow grI⟩
             case measure => simp [intOf]; omega
           · by_cases h25 : x.ef.op = 25
             · have HST2 : Hid (evTo S d (k + 1) = { e with w := bits .andNot .i64 e.w x.ef.n }) := by
                rw [Hid, HST.out, zef, if_neg HRE.out.2, if_neg (show ¬ x.n.op = 24 from h24), if_neg (show ¬ x.n.op = 10 from h10), if_neg (show ¬ x.n.op = 23 from h23), if_pos (show x.n.op = 25 from h25)]; rfl
               have HG : Hid (RowsV ((((((w.alloc (.cells (stA V S.num) 29)).alloc (.cells (cellsOf [0, 0, 0]) 119)).plus X).alloc (.cells (cellsOf [e.p, e.t, (bits .andNot .i64 e.w x.ef.n)]) 119)).alloc (.cells (cellsOf [e.mp, e.mt, 0]) 119)).plus Y) s 8 (l.map StV.arr)) := HRV.out.off (b := (((w.alloc (.cells (stA V S.num) 29)).alloc (.cells (cellsOf [0, 0, 0]) 119)).plus X).heap.size) (by repeat (first | exact Off.base _ _ _ _ rfl | refine Off.plus ?_ _ | refine Off.alloc ?_ _)) (by simp only [zac, zaa]; omega)
               go_wp2_with (go_at_call 149; refine (HRC.out _ grI).mono ?_; rintro e' w' ⟨rfl, nr, rfl⟩)
               go_roundw
               case rel => exact ⟨k + 1, by omega, by go_num, by rw [HST2.out]; exact grI, HG.out.grow grI⟩
               case measure => simp [intOf]; omega
             · have HST2 : Hid (evTo S d (k + 1) = e) := by
                rw [Hid, HST.out, zef, if_neg HRE.out.2, if_neg (show ¬ x.n.op = 24 from h24), if_neg (show ¬ x.n.op = 10 from h10), if_neg (show ¬ x.n.op = 23 from h23), if_neg (show ¬ x.n.op = 25 from h25)]
               go_wp2_with (go_at_call 149; refine (HRC.out _ grI).mono ?_; rintro e' w' ⟨rfl, nr, rfl⟩)
               go_roundw
               case rel => exact ⟨k + 1, by omega, by go_num, by rw [HST2.out]; exact grI, HRV.out.grow grI⟩
               case measure => simp [intOf]; omega
   · have HEN : Hid (evN S d = e) := HEV.out (by omega)
     go_wp2_with fail
     refine bodyPost_ret (zma rfl _ _ _ rfl ?_) rfl ?_
     · go_simp
     · exact ⟨by (go_simp; rw [HF.out, HEN.out]; rfl), grI⟩
 have k1 : ∀ (nx : Ext) (c : CdV), c.pw = (zbj S d).pw ∧ c.tf = (zbj S d).tf ∧ c.says = (zbj S d).says → K { tmps := #[.agg (stA V S.num), .int .i64 (d : Int), .pointer (some ⟨w.heap.size, 0, none⟩), undef, .pointer (some ⟨w.heap.size + 1, 0, none⟩), .pointer (some ⟨w.heap.size + 1 + 1 + nx.objs.size, 0, none⟩), .pointer (some ⟨w.heap.size + 1 + 1 + nx.objs.size + 1, 0, none⟩), undef, undef, undef, undef, .agg (stA V S.num), .int .i64 (d : Int), .agg c.arr, .pointer (some ⟨w.heap.size, 0, none⟩), V.objs.val, .int .i64 (d : Int), .pointer (some ⟨V.objs.b, V.objs.o + d * 18, none⟩), .agg (cellsOf row), undef, undef, undef, undef, undef, undef, undef, undef, undef, undef, undef, undef, undef, undef, undef, undef, undef, undef, undef, undef, undef, undef, undef, undef, undef, undef, undef, undef, undef, undef, undef, undef, undef, undef, undef, undef, undef, undef, undef, undef, undef, undef, undef, undef, undef, undef, undef, undef, undef, undef, undef, undef, undef, undef, undef, undef, undef, undef, undef, undef, undef, undef, undef, undef, undef, undef, undef, undef, undef, undef, undef, undef, undef, undef, undef, undef, undef, undef, undef, undef, undef, undef, undef, undef, undef, undef, undef, undef, undef, undef, undef, undef, undef, undef], defers := [] } (((((w.alloc (.cells (stA V S.num) 29)).alloc (.cells (cellsOf [0, 0, 0]) 119)).plus nx).alloc (.cells c.arr 99)).alloc (.cells (cellsOf row) 57)) := fun nx c hck => by
  obtain ⟨X, hX⟩ : Grow ((w.alloc (.cells (stA V S.num) 29)).alloc (.cells (cellsOf [0, 0, 0]) 119)) (((((w.alloc (.cells (stA V S.num) 29)).alloc (.cells (cellsOf [0, 0, 0]) 119)).plus nx).alloc (.cells c.arr 99)).alloc (.cells (cellsOf row) 57)) := grI
  rw [hX]
  refine key X _ _ c hck ?_ ?_ ?_ ?_ ?_ ?_ ?_ ?_ ?_ <;> (try rw [← hX]) <;> clear hX <;> first | omega | (go_simp; done) | (go_simp; omega)
 have k2 : ∀ (nx : Ext) (c : CdV), c.pw = (zbj S d).pw ∧ c.tf = (zbj S d).tf ∧ c.says = (zbj S d).says → K { tmps := #[.agg (stA V S.num), .int .i64 (d : Int), .pointer (some ⟨w.heap.size, 0, none⟩), undef, .pointer (some ⟨w.heap.size + 1, 0, none⟩), .pointer (some ⟨w.heap.size + 1 + 1 + nx.objs.size + 1, 0, none⟩), .pointer (some ⟨w.heap.size + 1 + 1 + nx.objs.size, 0, none⟩), undef, undef, undef, undef, .agg (stA V S.num), .int .i64 (d : Int), .agg c.arr, .pointer (some ⟨w.heap.size, 0, none⟩), V.objs.val, .int .i64 (d : Int), .pointer (some ⟨V.objs.b, V.objs.o + d * 18, none⟩), .agg (cellsOf row), undef, undef, undef, undef, undef, undef, undef, undef, undef, undef, undef, undef, undef, undef, undef, undef, undef, undef, undef, undef, undef, undef, undef, undef, undef, undef, undef, undef, undef, undef, undef, undef, undef, undef, undef, undef, undef, undef, undef, undef, undef, undef, undef, undef, undef, undef, undef, undef, undef, undef, undef, undef, undef, undef, undef, undef, undef, undef, undef, undef, undef, undef, undef, undef, undef, undef, undef, undef, undef, undef, undef, undef, undef, undef, undef, undef, undef, undef, undef, undef, undef, undef, undef, undef, undef, undef, undef, undef, undef, undef, undef, undef, undef, undef], defers := [] } (((((w.alloc (.cells (stA V S.num) 29)).alloc (.cells (cellsOf [0, 0, 0]) 119)).plus nx).alloc (.cells (cellsOf row) 57)).alloc (.cells c.arr 99)) := fun nx c hck => by
  obtain ⟨X, hX⟩ : Grow ((w.alloc (.cells (stA V S.num) 29)).alloc (.cells (cellsOf [0, 0, 0]) 119)) (((((w.alloc (.cells (stA V S.num) 29)).alloc (.cells (cellsOf [0, 0, 0]) 119)).plus nx).alloc (.cells (cellsOf row) 57)).alloc (.cells c.arr 99)) := grI
  rw [hX]
  refine key X _ _ c hck ?_ ?_ ?_ ?_ ?_ ?_ ?_ ?_ ?_ <;> (try rw [← hX]) <;> clear hX <;> first | omega | (go_simp; done) | (go_simp; omega)
 have k3 : ∀ (nx : Ext) (c : CdV), c.pw = (zbj S d).pw ∧ c.tf = (zbj S d).tf ∧ c.says = (zbj S d).says → K { tmps := #[.agg (stA V S.num), .int .i64 (d : Int), .pointer (some ⟨w.heap.size, 0, none⟩), undef, .pointer (some ⟨w.heap.size + 1, 0, none⟩), .pointer (some ⟨w.heap.size + 1 + 1, 0, none⟩), .pointer (some ⟨w.heap.size + 1 + 1 + 1 + nx.objs.size, 0, none⟩), undef, undef, undef, undef, .agg (stA V S.num), .int .i64 (d : Int), .agg c.arr, .pointer (some ⟨w.heap.size, 0, none⟩), V.objs.val, .int .i64 (d : Int), .pointer (some ⟨V.objs.b, V.objs.o + d * 18, none⟩), .agg (cellsOf row), undef, undef, undef, undef, undef, undef, undef, undef, undef, undef, undef, undef, undef, undef, undef, undef, undef, undef, undef, undef, undef, undef, undef, undef, undef, undef, undef, undef, undef, undef, undef, undef, undef, undef, undef, undef, undef, undef, undef, undef, undef, undef, undef, undef, undef, undef, undef, undef, undef, undef, undef, undef, undef, undef, undef, undef, undef, undef, undef, undef, undef, undef, undef, undef, undef, undef, undef, undef, undef, undef, undef, undef, undef, undef, undef, undef, undef, undef, undef, undef, undef, undef, undef, undef, undef, undef, undef, undef, undef, undef, undef, undef, undef, undef], defers := [] } (((((w.alloc (.cells (stA V S.num) 29)).alloc (.cells (cellsOf [0, 0, 0]) 119)).alloc (.cells c.arr 99)).plus nx).alloc (.cells (cellsOf row) 57)) := fun nx c hck => by
  obtain ⟨X, hX⟩ : Grow ((w.alloc (.cells (stA V S.num) 29)).alloc (.cells (cellsOf [0, 0, 0]) 119)) (((((w.alloc (.cells (stA V S.num) 29)).alloc (.cells (cellsOf [0, 0, 0]) 119)).alloc (.cells c.arr 99)).plus nx).alloc (.cells (cellsOf row) 57)) := grI
  rw [hX]
  refine key X _ _ c hck ?_ ?_ ?_ ?_ ?_ ?_ ?_ ?_ ?_ <;> (try rw [← hX]) <;> clear hX <;> first | omega | (go_simp; done) | (go_simp; omega)
 have k4 : ∀ (nx : Ext) (c : CdV), c.pw = (zbj S d).pw ∧ c.tf = (zbj S d).tf ∧ c.says = (zbj S d).says → K { tmps := #[.agg (stA V S.num), .int .i64 (d : Int), .pointer (some ⟨w.heap.size, 0, none⟩), undef, .pointer (some ⟨w.heap.size + 1, 0, none⟩), .pointer (some ⟨w.heap.size + 1 + 1 + 1 + nx.objs.size, 0, none⟩), .pointer (some ⟨w.heap.size + 1 + 1, 0, none⟩), undef, undef, undef, undef, .agg (stA V S.num), .int .i64 (d : Int), .agg c.arr, .pointer (some ⟨w.heap.size, 0, none⟩), V.objs.val, .int .i64 (d : Int), .pointer (some ⟨V.objs.b, V.objs.o + d * 18, none⟩), .agg (cellsOf row), undef, undef, undef, undef, undef, undef, undef, undef, undef, undef, undef, undef, undef, undef, undef, undef, undef, undef, undef, undef, undef, undef, undef, undef, undef, undef, undef, undef, undef, undef, undef, undef, undef, undef, undef, undef, undef, undef, undef, undef, undef, undef, undef, undef, undef, undef, undef, undef, undef, undef, undef, undef, undef, undef, undef, undef, undef, undef, undef, undef, undef, undef, undef, undef, undef, undef, undef, undef, undef, undef, undef, undef, undef, undef, undef, undef, undef, undef, undef, undef, undef, undef, undef, undef, undef, undef, undef, undef, undef, undef, undef, undef, undef, undef], defers := [] } (((((w.alloc (.cells (stA V S.num) 29)).alloc (.cells (cellsOf [0, 0, 0]) 119)).alloc (.cells (cellsOf row) 57)).plus nx).alloc (.cells c.arr 99)) := fun nx c hck => by
  obtain ⟨X, hX⟩ : Grow ((w.alloc (.cells (stA V S.num) 29)).alloc (.cells (cellsOf [0, 0, 0]) 119)) (((((w.alloc (.cells (stA V S.num) 29)).alloc (.cells (cellsOf [0, 0, 0]) 119)).alloc (.cells (cellsOf row) 57)).plus nx).alloc (.cells c.arr 99)) := grI
  rw [hX]
  refine key X _ _ c hck ?_ ?_ ?_ ?_ ?_ ?_ ?_ ?_ ?_ <;> (try rw [← hX]) <;> clear hX <;> first | omega | (go_simp; done) | (go_simp; omega)
 have k5 : ∀ (nx : Ext) (c : CdV), c.pw = (zbj S d).pw ∧ c.tf = (zbj S d).tf ∧ c.says = (zbj S d).says → K { tmps := #[.agg (stA V S.num), .int .i64 (d : Int), .pointer (some ⟨w.heap.size, 0, none⟩), undef, .pointer (some ⟨w.heap.size + 1, 0, none⟩), .pointer (some ⟨w.heap.size + 1 + 1, 0, none⟩), .pointer (some ⟨w.heap.size + 1 + 1 + 1, 0, none⟩), undef, undef, undef, undef, .agg (stA V S.num), .int .i64 (d : Int), .agg c.arr, .pointer (some ⟨w.heap.size, 0, none⟩), V.objs.val, .int .i64 (d : Int), .pointer (some ⟨V.objs.b, V.objs.o + d * 18, none⟩), .agg (cellsOf row), undef, undef, undef, undef, undef, undef, undef, undef, undef, undef, undef, undef, undef, undef, undef, undef, undef, undef, undef, undef, undef, undef, undef, undef, undef, undef, undef, undef, undef, undef, undef, undef, undef, undef, undef, undef, undef, undef, undef, undef, undef, undef, undef, undef, undef, undef, undef, undef, undef, undef, undef, undef, undef, undef, undef, undef, undef, undef, undef, undef, undef, undef, undef, undef, undef, undef, undef, undef, undef, undef, undef, undef, undef, undef, undef, undef, undef, undef, undef, undef, undef, undef, undef, undef, undef, undef, undef, undef, undef, undef, undef, undef, undef, undef], defers := [] } (((((w.alloc (.cells (stA V S.num) 29)).alloc (.cells (cellsOf [0, 0, 0]) 119)).alloc (.cells c.arr 99)).alloc (.cells (cellsOf row) 57)).plus nx) := fun nx c hck => by
  obtain ⟨X, hX⟩ : Grow ((w.alloc (.cells (stA V S.num) 29)).alloc (.cells (cellsOf [0, 0, 0]) 119)) (((((w.alloc (.cells (stA V S.num) 29)).alloc (.cells (cellsOf [0, 0, 0]) 119)).alloc (.cells c.arr 99)).alloc (.cells (cellsOf row) 57)).plus nx) := grI
  rw [hX]
  refine key X _ _ c hck ?_ ?_ ?_ ?_ ?_ ?_ ?_ ?_ ?_ <;> (try rw [← hX]) <;> clear hX <;> first | omega | (go_simp; done) | (go_simp; omega)
 have k6 : ∀ (nx : Ext) (c : CdV), c.pw = (zbj S d).pw ∧ c.tf = (zbj S d).tf ∧ c.says = (zbj S d).says → K { tmps := #[.agg (stA V S.num), .int .i64 (d : Int), .pointer (some ⟨w.heap.size, 0, none⟩), undef, .pointer (some ⟨w.heap.size + 1, 0, none⟩), .pointer (some ⟨w.heap.size + 1 + 1 + 1, 0, none⟩), .pointer (some ⟨w.heap.size + 1 + 1, 0, none⟩), undef, undef, undef, undef, .agg (stA V S.num), .int .i64 (d : Int), .agg c.arr, .pointer (some ⟨w.heap.size, 0, none⟩), V.objs.val, .int .i64 (d : Int), .pointer (some ⟨V.objs.b, V.objs.o + d * 18, none⟩), .agg (cellsOf row), undef, undef, undef, undef, undef, undef, undef, undef, undef, undef, undef, undef, undef, undef, undef, undef, undef, undef, undef, undef, undef, undef, undef, undef, undef, undef, undef, undef, undef, undef, undef, undef, undef, undef, undef, undef, undef, undef, undef, undef, undef, undef, undef, undef, undef, undef, undef, undef, undef, undef, undef, undef, undef, undef, undef, undef, undef, undef, undef, undef, undef, undef, undef, undef, undef, undef, undef, undef, undef, undef, undef, undef, undef, undef, undef, undef, undef, undef, undef, undef, undef, undef, undef, undef, undef, undef, undef, undef, undef, undef, undef, undef, undef, undef], defers := [] } (((((w.alloc (.cells (stA V S.num) 29)).alloc (.cells (cellsOf [0, 0, 0]) 119)).alloc (.cells (cellsOf row) 57)).alloc (.cells c.arr 99)).plus nx) := fun nx c hck => by
  obtain ⟨X, hX⟩ : Grow ((w.alloc (.cells (stA V S.num) 29)).alloc (.cells (cellsOf [0, 0, 0]) 119)) (((((w.alloc (.cells (stA V S.num) 29)).alloc (.cells (cellsOf [0, 0, 0]) 119)).alloc (.cells (cellsOf row) 57)).alloc (.cells c.arr 99)).plus nx) := grI
  rw [hX]
  refine key X _ _ c hck ?_ ?_ ?_ ?_ ?_ ?_ ?_ ?_ ?_ <;> (try rw [← hX]) <;> clear hX <;> first | omega | (go_simp; done) | (go_simp; omega)
 clear key
 go_region_law (first | (refine zak (by rfl) ?_; go_simp; go_at_call 97; refine (zlv S V _ (HR.out.grow grI) HH.out d hd).mono ?_; rintro e' w' ⟨c, rfl, hc, nx, rfl⟩; have hck := And.intro hc.pw (And.intro hc.tf hc.says); clear hc))
 all_goals first | exact k1 _ _ (by assumption) | exact k2 _ _ (by assumption) | exact k3 _ _ (by assumption) | exact k4 _ _ (by assumption) | exact k5 _ _ (by assumption) | exact k6 _ _ (by assumption)
end Go.Proofs.YthfalocligkamaaGreatDoor
namespace Go.Proofs.YthfalocligkamaaGreatDoor
open Go Go.RowKit
structure RS (S : St) (V : SV) (w : World) : Prop where
 rep : RepSt w V S
 right : Right S
 small : Small S
 glob : Glob w
theorem RS.grow {S : St} {V : SV} {w w' : World} (h : RS S V w) (g : Grow w w') : RS S V w' := ⟨h.rep.grow g, h.right, h.small, h.glob.grow g⟩
theorem RS.check {S : St} {V : SV} {w : World} (h : RS S V w) : Calls Tryz.prog 32 #[.agg (stA V S.num)] w fun e w' => e = .returned .nilIface ∧ Grow w w' := by
 refine (zgz S V w h.rep h.small h.glob).mono ?_
 rintro e w' ⟨rfl, g⟩
 exact ⟨by rw [(zbi S).2 h.right]; rfl, g⟩
set_option maxRecDepth 100000 in
theorem zm9 (S : St) (V : SV) (w : World) (h : RS S V w) (id : Int) :
 Calls Tryz.prog 33 #[.agg (stA V S.num), .int .i64 id] w fun e w' => e = .returned (.bool (zam S id)) ∧ Grow w w' := by
 have HH := Lib.hid h
 clear h
 go_enter Tryz.func33, Tryz.ntmps33
 go_wp2_with (first | (go_at_call 32; refine ((HH.out.grow grI).check).mono ?_; rintro e w' ⟨rfl, nx, rfl⟩) | (go_at_call 60; refine (zec S V _ (HH.out.grow grI).rep HH.out.right id).mono ?_; rintro e w' ⟨rfl, nx, rfl⟩))
 go_ret
 exact ⟨rfl, grI⟩
def ofV (S : St) (id : Int) : Value := if zam S id = true then .tuple #[.agg (cellsOf (shapeN S id.toNat)), .nilIface] else .tuple #[.agg (cellsOf [0, 0, 0]), errV 4]
@[go_sem] theorem zuu (w : World) : (za0 119 #[]).run Tryz.prog w = .ok (.value (.agg (cellsOf [0, 0, 0]))) w := by kernel_rfl
set_option maxRecDepth 100000 in
theorem yco (S : St) (V : SV) (w : World) (h : RS S V w) (id : Int) :
 Calls Tryz.prog 87 #[.agg (stA V S.num), .int .i64 id] w fun e w' => e = .returned (ofV S id) ∧ Grow w w' := by
 have HH := Lib.hid h
 clear h
 have HO : Hid (ofV S id = if zam S id = true then .tuple #[.agg (cellsOf (shapeN S id.toNat)), .nilIface] else .tuple #[.agg (cellsOf [0, 0, 0]), errV 4]) := rfl
 cases hc : zam S id with
 | true =>
   obtain ⟨c1, c2, _, _⟩ := zib hc
   obtain ⟨d, rfl⟩ := Int.eq_ofNat_of_zero_le c1
   have hd : d < S.objs.length := by omega
   rw [hc, Int.toNat_natCast] at HO
   have hsl : (shapeN S d).length = 3 := rfl
   have HCR : Hid (∀ W, Grow w W → Calls Tryz.prog 60 #[.agg (stA V S.num), .int .i64 (d : Int)] W fun e w' => e = .returned (.bool true) ∧ Grow W w') := fun W g => by
    have := zec S V W (HH.out.grow g).rep HH.out.right d
    rw [hc] at this; exact this
   clear hc c1 c2
   go_enter Tryz.func87, Tryz.ntmps87
   go_wp2_with (first | (go_at_call 32; refine ((HH.out.grow grI).check).mono ?_; rintro e w' ⟨rfl, nx, rfl⟩) | (go_at_call 60; refine (HCR.out _ grI).mono ?_; rintro e w' ⟨rfl, nx, rfl⟩) | (go_at_call 121; refine (z02 S V _ (HH.out.grow grI).rep HH.out.right HH.out.small d hd).mono ?_; rintro e w' ⟨rfl, nx, rfl⟩))
   refine bodyPost_ret (zgc rfl _ _ _ rfl ?_) rfl ?_
   · go_simp
   · exact ⟨by rw [HO.out]; go_simp, grI⟩
 | false =>
   rw [hc] at HO
   have HCR : Hid (∀ W, Grow w W → Calls Tryz.prog 60 #[.agg (stA V S.num), .int .i64 id] W fun e w' => e = .returned (.bool false) ∧ Grow W w') := fun W g => by
    have := zec S V W (HH.out.grow g).rep HH.out.right id
    rw [hc] at this; exact this
   clear hc
   go_enter Tryz.func87, Tryz.ntmps87
   go_wp2_with (first | (go_at_call 32; refine ((HH.out.grow grI).check).mono ?_; rintro e w' ⟨rfl, nx, rfl⟩) | (go_at_call 60; refine (HCR.out _ grI).mono ?_; rintro e w' ⟨rfl, nx, rfl⟩))
   refine bodyPost_ret (zgc rfl _ _ _ rfl ?_) rfl ?_
   · go_simp
   · exact ⟨by rw [HO.out]; go_simp, grI⟩
end Go.Proofs.YthfalocligkamaaGreatDoor
namespace Go.Proofs.YthfalocligkamaaGreatDoor
open Go Go.RowKit
end Go.Proofs.YthfalocligkamaaGreatDoor
namespace Go.Proofs.YthfalocligkamaaGreatDoor
open Go Go.RowKit
theorem yaf (w : World) (b : Nat) (hb : b ≤ 1048576) : Calls Tryz.prog 70 #[.int .i64 (b : Int)] w fun e w' => e = .returned (.int .i64 ((b : Int) + 1)) ∧ Grow w w' := by
 have hne : ((b : Int) == 9223372036854775807) = false := by
  rw [beq_eq_false_iff_ne]; omega
 go_enter Tryz.func70, Tryz.ntmps70
 go_wp2_with fail
 go_ret
 exact ⟨rfl, grI⟩
theorem zwf (w : World) (p : Int) (h0 : 0 ≤ p) (h1 : p ≤ 1) : Calls Tryz.prog 35 #[.int .i64 p] w fun e w' => e = .returned (.int .i64 (1 - p)) ∧ Grow w w' := by
 have : p = 0 ∨ p = 1 := by omega
 rcases this with rfl | rfl
 · go_enter Tryz.func35, Tryz.ntmps35
   go_wp2_with fail
   go_ret
   exact ⟨rfl, grI⟩
 · go_enter Tryz.func35, Tryz.ntmps35
   go_wp2_with fail
   go_ret
   exact ⟨rfl, grI⟩
end Go.Proofs.YthfalocligkamaaGreatDoor
