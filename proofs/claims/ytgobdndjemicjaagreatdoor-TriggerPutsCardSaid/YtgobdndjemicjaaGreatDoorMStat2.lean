/- The walk of statics. -/
import Derived.Test.YtgobdndjemicjaaGreatDoorMUses
namespace Go.Proofs.YtgobdndjemicjaaGreatDoor
open Go Go.RowKit
theorem CardOk.stat {own : Nat → Prop} {w w2 wr : World} {n : Nat} {c : CdV} {d : CardN} (h : CardOk w n c d) (g : Grow w w2) (hk : Kept own w2 wr) (ho : ∀ b, n ≤ b → b < w.heap.size → ¬ own b) {i : Nat} (hi : i < d.abs.length) (hw : (d.abs.getD i ⟨0, 0, 0, 0, 0⟩).wh = 5) :
 ∃ (a : AbV) (who : Int) (s : Sl), c.abs.n = d.abs.length ∧ n ≤ c.abs.b ∧ c.abs.b < wr.heap.size ∧ c.abs.o + i * 14 + 14 ≤ (wr.blk c.abs.b).size ∧ sub (wr.blk c.abs.b) (c.abs.o + i * 14 + 9) 5 = a.ef.arr ∧ a.ef.n = (d.abs.getD i ⟨0, 0, 0, 0, 0⟩).grp ∧
   n ≤ a.ef.subs.b ∧ a.ef.subs.b < wr.heap.size ∧ a.ef.subs.n = 1 ∧ a.ef.subs.o + 5 ≤ (wr.blk a.ef.subs.b).size ∧ sub (wr.blk a.ef.subs.b) a.ef.subs.o 5 = EfV.arr ⟨(d.abs.getD i ⟨0, 0, 0, 0, 0⟩).op, (d.abs.getD i ⟨0, 0, 0, 0, 0⟩).n, (d.abs.getD i ⟨0, 0, 0, 0, 0⟩).m, who, s⟩ := by
 obtain ⟨a, q0, q1, q2, q3, q4, q5⟩ := h.ab hi
 obtain ⟨p1, p2, who, s, p3⟩ := q5.2 hw
 obtain ⟨l, h1, h0, h2⟩ := h.abs
 have hl : l ≠ [] := by
  rintro rfl
  have := h2.get.1
  simp at this
  omega
 have hcb : n ≤ c.abs.b := by rcases h0 with h | h; exact absurd h hl; exact h
 obtain ⟨r1, r2, r3⟩ := p3.at (by decide) (i := 0) rfl
 have hs2 := g.size
 have e1 : wr.blk c.abs.b = w.blk c.abs.b := by rw [hk.blk _ (by omega) (ho _ hcb q1), zgm g q1]
 have e2 : wr.blk a.ef.subs.b = w.blk a.ef.subs.b := by rw [hk.blk _ (by omega) (ho _ p2 r1), zgm g r1]
 have hs3 := hk.size
 rw [Nat.zero_mul, Nat.add_zero] at r2 r3
 refine ⟨a, who, s, q0, hcb, by omega, by rw [e1]; exact q2, by rw [e1]; exact q4, p1, p2, by omega, p3.len, by rw [e2]; exact r2, by rw [e2]; exact r3⟩
@[go_sem] theorem z7v (a b c : Int) (e : EfV) : Array.foldl (fun (cs : Array Value) (x : Value × Nat) => cs.setIfInBounds (3 + x.snd) x.fst) #[I a, I b, I c, Value.int .i64 0, Value.int .i64 0, Value.int .i64 0, Value.int .i64 0, Value.slice none 0 0] e.arr.zipIdx 0 5 = StV.arr ⟨a, b, c, e⟩ := by
 obtain ⟨op, n, m, who, s⟩ := e
 rfl
set_option maxRecDepth 100000 in
set_option maxHeartbeats 4000000 in
theorem zq7 (S : St) (V : SV) (w : World) (R : RepSt w V S) (hR : Right S) (hS : Small S) :
 Calls Tryz.prog 281 #[.agg (stA V S.num)] w fun e w' => ∃ (s : Sl) (l : List StV), e = .returned s.val ∧ RowsV w' s 8 (l.map StV.arr) ∧ l.map StV.n = zeg S ∧ (∀ b, s.owns b → w.heap.size ≤ b) ∧ Grow w w' := by
 have hN := R.objs.len
 have hL := (R.list 8 (by decide)).len
 have hSL := hS.list 8 (by decide)
 have HR := Lib.hid R
 have HH := Lib.hid hR
 clear R hR hS
 go_enter Tryz.func281, Tryz.ntmps281
 go_wp2_with fail
 go_loopw [3, 14] (fun v i wr => ∃ (k : Nat) (s : Sl) (l : List StV), k ≤ (S.list 8).length ∧ i = .int .i64 k ∧ v = s.val ∧ Hid (Made (w.alloc (.cells (stA V S.num) 29)).heap.size wr s 8 (zdr (l.map StV.arr)) ∧ l.map StV.n = yal S k) ∧ s.n ≤ 2 * k ∧ Grow (w.alloc (.cells (stA V S.num) 29)) wr) (fun _ i _ => (S.list 8).length - (intOf i).toNat)
 case atStart => exact ⟨0, .nil, [], by omega, rfl, rfl, ⟨Made.nil _ _ _, rfl⟩, by simp [Sl.n], grI⟩
 case round =>
  obtain ⟨k, s, l, hk, rfl, rfl, HM, hsn, hG⟩ := hrel
  obtain ⟨x, rfl⟩ := hG
  by_cases hlt : k < (S.list 8).length
  · obtain ⟨hlb, hlc⟩ := (HR.out.list 8 (by decide)).at k hlt
    obtain ⟨o1, o2, _, _⟩ := HH.out.zon.ok 8 (by decide) (gt (S.list 8) k) (by rw [zkl _ _ hlt]; exact List.getElem_mem hlt)
    have HST := Lib.hid (zzk S k hlt)
    generalize hid : gt (S.list 8) k = id at *
    obtain ⟨d, rfl⟩ := Int.eq_ofNat_of_zero_le o1
    have hd : d < S.objs.length := by omega
    have HID := Lib.hid hid
    clear hid o1 o2
    go_wp2_with (first | (go_at_call 264; refine (zml S V _ (HR.out.grow grI) HH.out d hd).mono ?_; rintro e' w1 ⟨c, rfl, hc, hg1⟩; have HC := Lib.hid (And.intro hc hg1); clear hc hg1) | (go_at_call 85; refine (zj0 _ c (zbp S d) _ (HC.out.1.grow grI) 5 (Nat.le_trans (zgu S d) (by decide))).mono ?_; rintro e' w2 ⟨su, rfl, hI, hO, hg2⟩; have HU := Lib.hid (And.intro hI (And.intro hO hg2)); have hun := hI.len; clear hI hO hg2))
    have hu2 : (usesN (zbp S d).abs 5).length ≤ 2 := Nat.le_trans (zgk _ _) (zgu S d)
    generalize hu : usesN (zbp S d).abs 5 = u at *
    have HUU := Lib.hid hu
    clear hu
    go_loopw [3, 24] (fun v i wr => ∃ (j : Nat) (s : Sl) (l : List StV), j ≤ u.length ∧ i = .int .i64 j ∧ v = s.val ∧ Hid (Made (w.alloc (.cells (stA V S.num) 29)).heap.size wr s 8 (zdr (l.map StV.arr)) ∧ l.map StV.n = yal S k ++ (u.take j).map (zl1 S d) ∧
     (∀ b, s.owns b → b < ((w.alloc (.cells (stA V S.num) 29)).plus x).heap.size ∨ w2.heap.size ≤ b) ∧ Kept (fun b => (w.alloc (.cells (stA V S.num) 29)).heap.size ≤ b ∧ (b < ((w.alloc (.cells (stA V S.num) 29)).plus x).heap.size ∨ w2.heap.size ≤ b)) w2 wr) ∧ s.n ≤ 2 * k + j ∧ Grow (w.alloc (.cells (stA V S.num) 29)) wr) (fun _ i _ => u.length - (intOf i).toNat)
    case atStart =>
     have g1 : Grow (w.alloc (.cells (stA V S.num) 29)) w2 := (Grow.plus (Grow.refl _) x).trans (HC.out.2.trans (((Grow.refl w1).alloc _).trans HU.out.2.2))
     have g2 : Grow ((w.alloc (.cells (stA V S.num) 29)).plus x) w2 := HC.out.2.trans (((Grow.refl w1).alloc _).trans HU.out.2.2)
     exact ⟨0, s, l, by omega, rfl, rfl, ⟨HM.out.1.grow g2, by rw [List.take_zero, List.map_nil, List.append_nil]; exact HM.out.2, fun b hb => .inl (HM.out.1.own b hb).2, Kept.refl _ _⟩, by omega, g1⟩
    case round =>
     obtain ⟨j, s, l, hj, rfl, rfl, HM2, hsn2, hG⟩ := hrel
     obtain ⟨y, rfl⟩ := hG
     clear HM hsn
     by_cases hjt : j < u.length
     · obtain ⟨i, hi1, hi2, hi3⟩ := z5k (zbp S d).abs 5 (gt u j) (by rw [HUU.out, zkl _ _ hjt]; exact List.getElem_mem hjt)
       obtain ⟨a, who, s0, q1, q2, q3, q4, q5, q6, q7, q8, q9, q10, q11⟩ := HC.out.1.stat (((Grow.refl w1).alloc _).trans HU.out.2.2) HM2.out.2.2.2 (fun b h1 h2 h3 => by
        have e1 := HU.out.2.2.size
        rw [zaa] at e1
        omega) hi2 hi3
       obtain ⟨hob, how, hosz, hosub, hocell⟩ := (HR.out.objs).at (by omega) d hd
       have hoc := hocell 2 (by omega)
       have hd' : (d : Int) < S.objs.length := by omega
       clear hocell hosub
       have HSO : Hid (zl1 S d (gt u j) = ⟨d, gt (rowAt S.objs d) 2, ((zbp S d).abs.getD i ⟨0, 0, 0, 0, 0⟩).grp, ((zbp S d).abs.getD i ⟨0, 0, 0, 0, 0⟩).op, ((zbp S d).abs.getD i ⟨0, 0, 0, 0, 0⟩).n, ((zbp S d).abs.getD i ⟨0, 0, 0, 0, 0⟩).m⟩) := by
        rw [Hid, zl1, hi1, Int.toNat_natCast]
       generalize gt (rowAt S.objs d) 2 = ctl at *
       generalize (zbp S d).abs.getD i ⟨0, 0, 0, 0, 0⟩ = bn at *
       have hin : i < c.abs.n := by omega
       have hin' : (i : Int) < c.abs.n := by omega
       have HI := HU.out.1.at j hjt
       have hsz1 := HC.out.2.size
       have hsz2 := HU.out.2.2.size
       have hsz3 := HM2.out.2.2.2.size
       have hsub : w1.heap.size + 1 ≤ su.b := by
        have := HU.out.2.1 su.b (Sl.owns_b (by omega))
        rwa [zaa] at this
       have f1 : ((w.alloc (.cells (stA V S.num) 29)).plus y).cell? ⟨w1.heap.size, 12, none⟩ = some c.abs.val := by
        rw [HM2.out.2.2.2.cell _ _ (by rw [zaa] at hsz2; omega) (by rw [zaa] at hsz2; omega)]
        obtain ⟨z, hz⟩ := HU.out.2.2
        rw [hz, zc4 _ _ _ _ (by rw [zaa]; omega), zc5, if_pos rfl]
        rfl
       have f2 : ((w.alloc (.cells (stA V S.num) 29)).plus y).cell? ⟨su.b, su.o + j, none⟩ = some (I i) := by
        rw [HM2.out.2.2.2.cell _ _ HI.1 (by have := HI.1; rw [zab] at *; omega), HI.2, hi1]
       have hsu2 := HI.1
       clear HI hi1 hi2 hi3
       simp only [zab, zaa] at q2 q3 q7 q8 hsz1 hsz2 hsz3 hsu2
       have r1 : w.heap.size + 1 ≤ c.abs.b := by omega
       have r2 : w.heap.size + 1 ≤ a.ef.subs.b := by omega
       have r3 : w.heap.size + 1 ≤ su.b := by omega
       have r4 : w.heap.size + 1 ≤ w1.heap.size := by omega
       have r5 : w1.heap.size < w.heap.size + 1 + y.objs.size := by omega
       have r6 : su.b < w.heap.size + 1 + y.objs.size := by omega
       have q4' : c.abs.o + i * 14 + 14 ≤ (zj7 (w.alloc (.cells (stA V S.num) 29)) y c.abs.b).size := q4
       have q5' : sub (zj7 (w.alloc (.cells (stA V S.num) 29)) y c.abs.b) (c.abs.o + i * 14 + 9) 5 = a.ef.arr := q5
       have q10' : a.ef.subs.o + 5 ≤ (zj7 (w.alloc (.cells (stA V S.num) 29)) y a.ef.subs.b).size := q10
       have q11' : sub (zj7 (w.alloc (.cells (stA V S.num) 29)) y a.ef.subs.b) a.ef.subs.o 5 = EfV.arr ⟨bn.op, bn.n, bn.m, who, s0⟩ := q11
       have f1' : zcp (w.alloc (.cells (stA V S.num) 29)) y w1.heap.size 12 = some c.abs.val := f1
       have f2' : zcp (w.alloc (.cells (stA V S.num) 29)) y su.b (su.o + j) = some (I i) := f2
       have HQ := Lib.hid (And.intro hsz1 (And.intro hsz2 hsz3))
       clear q4 q5 q10 q11 f1 f2 hsz1 hsz2 hsz3 q2 q7 q1
       go_wp2_with fail
       have n1 : ¬ V.objs.b = w.heap.size := by omega
       have n2 : ¬ a.ef.subs.b = w.heap.size + 1 + y.objs.size := by omega
       have n3 : ¬ a.ef.subs.b < w.heap.size + 1 := by omega
       have n4 : ¬ V.objs.b = w.heap.size + 1 + y.objs.size := by omega
       go_region_law (first | (refine zzm (by rfl) _ _ 270 rfl 273 Tryz.t273 (.agg (StV.arr ⟨0, 0, 0, ⟨0, 0, 0, 0, .nil⟩⟩)) 8 80 Tryz.underlying270 (by kernel_rfl) (by kernel_rfl) (by kernel_rfl) (by kernel_rfl) (by omega) rfl (w.alloc (.cells (stA V S.num) 29)) s (.mk _ 0 1 1) (zdr (l.map StV.arr)) (zdr [StV.arr ⟨d, ctl, bn.grp, ⟨bn.op, bn.n, bn.m, who, s0⟩⟩]) rfl rfl (HM2.out.1.grow grI) grI (RowsV.one (x := StV.arr _) (by go_simp) (by go_simp) (by go_simp)).cells (zds (fun x hx => by obtain ⟨a, _, rfl⟩ := List.mem_map.1 hx; exact StV.one a)) (zds (by simp [StV.one])) (by show s.n + 1 ≤ 4194304; omega) ?_; intro s3 y3 c1 c2 c3 c4; have C := Lib.hid (And.intro c1 (And.intro c2 (And.intro c3 c4))); clear c1 c2 c3 c4))
       all_goals go_wp2_with fail
       all_goals go_roundw
       all_goals first
        | (simp [intOf]; omega)
        | (have hb3 : s3.n = s.n + 1 := C.out.2.2.1
           refine ⟨j + 1, s3, l ++ [⟨d, ctl, bn.grp, ⟨bn.op, bn.n, bn.m, who, s0⟩⟩], by omega, by go_num, rfl, ⟨by rw [List.map_append, zey]; exact C.out.1, ?_, fun b hb => (C.out.2.2.2 b hb).elim (HM2.out.2.2.1 b) (fun h => .inr (by simp only [zaa, zab, zao] at h; have := HQ.out.2.2; omega)), ?_⟩, by omega, grI⟩
           · rw [List.map_append, HM2.out.2.1, zev _ _ hjt, List.map_append, List.append_assoc]
             rw [show List.map (zl1 S d) [gt u j] = [zl1 S d (gt u j)] from rfl, HSO.out]
             rfl
           · exact (HM2.out.2.2.2.trans (o2 := fun _ => False) (Grow.kept _ (show Grow ((w.alloc (.cells (stA V S.num) 29)).plus y) _ from grI)) (fun _ _ h => h.elim)).trans (o2 := s.owns) C.out.2.1 (fun b _ hb => ⟨(HM2.out.1.own b hb).1, HM2.out.2.2.1 b hb⟩))
     · go_wp2_with fail
       go_roundw
       case rel =>
        refine ⟨k + 1, s, l, by omega, by go_num, rfl, ⟨HM2.out.1.grow grI, ?_⟩, by omega, grI⟩
        rw [HM2.out.2.1, HST.out, zi4, Int.toNat_natCast, HUU.out, List.take_of_length_le (by omega)]
       case measure => simp [intOf]; omega
  · go_wp2_with fail
    go_ret
    refine ⟨s, l, rfl, Cells.rowsV (HM.out.1.cells.grow grI) (by decide) (fun x hx => by obtain ⟨a, _, rfl⟩ := List.mem_map.1 hx; exact StV.size a), ?_, fun b hb => Nat.le_trans (by rw [zaa]; omega) (HM.out.1.own b hb).1, grI⟩
    rw [HM.out.2, yal, zeg, List.take_of_length_le (by omega)]
end Go.Proofs.YtgobdndjemicjaaGreatDoor
