/- The document's cards: rows of numbers, effects, abilities. -/
import Derived.Test.YthfalocligkamaaGreatDoorMTab3
import Derived.Deep.RegionHeld3
import Derived.Test.YthfalocligkamaaGreatDoorMMix
namespace Go.Proofs.YthfalocligkamaaGreatDoor
open Go Go.RowKit
def zf7 (w : World) (l : List Obj) : World := l.foldl World.alloc w
theorem zez (l : List Obj) : ∀ w : World, Grow w (zf7 w l) := by
 induction l with
 | nil => intro w; exact Grow.refl _
 | cons o l ih => intro w; exact Grow.trans ((Grow.refl w).alloc o) (ih (w.alloc o))
theorem zrh {l : List Obj} {w : World} {k : Nat} (h : k < w.heap.size) : (zf7 w l).blk k = w.blk k ∧ (zf7 w l).free k = w.free k := by
 have g := (zez l w).kept (fun _ => False)
 exact ⟨g.blk k h (fun h => h), g.free k h (fun h => h)⟩
theorem zvf : ∀ (l : List Obj) (w : World) (i : Nat) (c : Array Value) (t : TypeId), l[i]? = some (.cells c t (0, 0)) → (zf7 w l).blk (w.heap.size + i) = c ∧ (zf7 w l).free (w.heap.size + i) = true := by
 intro l
 induction l with
 | nil => intro w i c t h; cases h
 | cons o l ih =>
   intro w i c t h
   cases i with
   | zero =>
     obtain rfl : o = .cells c t (0, 0) := by simpa using h
     show (zf7 (w.alloc _) l).blk _ = _ ∧ _
     have := zrh (l := l) (w := w.alloc (.cells c t (0, 0))) (k := w.heap.size) (by rw [zaa]; omega)
     show (zf7 (w.alloc (.cells c t (0, 0))) l).blk (w.heap.size + 0) = c ∧ (zf7 (w.alloc (.cells c t (0, 0))) l).free (w.heap.size + 0) = true
     rw [Nat.add_zero, this.1, this.2, zeq, zkt]; simp
   | succ i =>
     have := ih (w.alloc o) i c t (by simpa using h)
     rw [zaa, Nat.add_assoc, Nat.add_comm 1 i] at this
     exact this
theorem ziw {l : List Obj} {w : World} {i : Nat} {c : Array Value} {t : TypeId} (h : l[i]? = some (.cells c t (0, 0))) (o : Nat) : (zf7 w l).cell? ⟨w.heap.size + i, o, none⟩ = c[o]? := by
 have := zvf l w i c t h
 exact zaf this.2 this.1 o
def zq3 (b : Nat) : List (List Int) → List Value
 | [] => []
 | l :: ll => .slice (some ⟨b, 0, none⟩) l.length l.length :: zq3 (b + 1) ll
theorem zxn : ∀ (ll : List (List Int)) (b i : Nat) (l : List Int), ll[i]? = some l → (zq3 b ll)[i]? = some (Sl.mk (b + i) 0 l.length l.length).val := by
 intro ll
 induction ll with
 | nil => intro b i l h; cases h
 | cons x ll ih =>
   intro b i l h
   cases i with
   | zero =>
     obtain rfl : x = l := by simpa using h
     rfl
   | succ i =>
     have := ih (b + 1) i l (by simpa using h)
     rw [Nat.add_assoc, Nat.add_comm 1 i] at this
     exact this
structure LL (w : World) (m : Nat) (s : Sl) (ll : List (List Int)) : Prop where
 len : s.n = ll.length
 at' : ∀ i l, ll[i]? = some l → ∃ b : Nat, m ≤ b ∧ w.cell? ⟨s.b, s.o + i, none⟩ = some (Sl.mk b 0 l.length l.length).val ∧ Ints w (.mk b 0 l.length l.length) l
theorem LL.grow {w w' : World} {m : Nat} {s : Sl} {ll : List (List Int)} (h : LL w m s ll) (g : Grow w w') : LL w' m s ll := by
 refine ⟨h.len, fun i l hl => ?_⟩
 obtain ⟨x, h0, h1, h2⟩ := h.at' i l hl
 refine ⟨x, h0, ?_, h2.grow g⟩
 obtain ⟨y, rfl⟩ := g
 have hb : s.b < w.heap.size := by
  rcases Nat.lt_or_ge s.b w.heap.size with h | h
  · exact h
  · rw [World.cell?, show w.heap[s.b]? = none from Array.getElem?_eq_none (by omega)] at h1; simp at h1
 rw [zd6, if_pos hb, h1]
def zh0 (t1 t2 : TypeId) (b : Nat) (ll : List (List Int)) : List Obj := ll.map (fun l => Obj.cells (cellsOf l) t1 (0, 0)) ++ [Obj.cells (zq3 b ll).toArray t2 (0, 0)]
theorem LL.made (w : World) (t1 t2 : TypeId) (ll : List (List Int)) : LL (zf7 w (zh0 t1 t2 w.heap.size ll)) w.heap.size (.mk (w.heap.size + ll.length) 0 ll.length ll.length) ll := by
 refine ⟨rfl, fun i l hl => ?_⟩
 have hi : i < ll.length := (List.getElem?_eq_some_iff.1 hl).1
 refine ⟨w.heap.size + i, by omega, ?_, rfl, Nat.le_refl _, fun j hj => ?_⟩
 · show World.cell? _ ⟨w.heap.size + ll.length, 0 + i, none⟩ = _
   rw [ziw (c := (zq3 w.heap.size ll).toArray) (t := t2) (by unfold zh0; simp), Nat.zero_add]
   simpa using zxn ll w.heap.size i l hl
 · show World.cell? _ ⟨w.heap.size + i, 0 + j, none⟩ = _
   rw [ziw (c := cellsOf l) (t := t1) (by unfold zh0; rw [List.getElem?_append_left (by simpa using hi)]; simp [hl]), Nat.zero_add]
   exact za5 _ _ hj
set_option maxRecDepth 100000 in
set_option maxHeartbeats 2000000 in
theorem zmk (w : World) :
 Calls Tryz.prog 127 #[] w fun e w' => ∃ s : Sl, e = .returned s.val ∧ LL w' w.heap.size s specialL ∧ Grow w w' := by
 go_enter Tryz.func127, Tryz.ntmps127
 go_wp2_with fail
 go_ret
 exact ⟨.mk (w.heap.size + 12) 0 12 12, rfl, LL.made w 3 23 specialL, zez (zh0 3 23 w.heap.size specialL) w⟩
set_option maxRecDepth 100000 in
set_option maxHeartbeats 4000000 in
theorem zd2 (w : World) :
 Calls Tryz.prog 123 #[] w fun e w' => ∃ s : Sl, e = .returned s.val ∧ LL w' w.heap.size s magicL ∧ Grow w w' := by
 go_enter Tryz.func123, Tryz.ntmps123
 go_wp2_with fail
 go_ret
 exact ⟨.mk (w.heap.size + 30) 0 30 30, rfl, LL.made w 3 23 magicL, zez (zh0 3 23 w.heap.size magicL) w⟩
set_option maxRecDepth 100000 in
set_option maxHeartbeats 4000000 in
theorem zd7 (w : World) :
 Calls Tryz.prog 126 #[] w fun e w' => ∃ s : Sl, e = .returned s.val ∧ LL w' w.heap.size s relicL ∧ Grow w w' := by
 go_enter Tryz.func126, Tryz.ntmps126
 go_wp2_with fail
 go_ret
 exact ⟨.mk (w.heap.size + 20) 0 20 20, rfl, LL.made w 3 23 relicL, zez (zh0 3 23 w.heap.size relicL) w⟩
end Go.Proofs.YthfalocligkamaaGreatDoor
namespace Go.Proofs.YthfalocligkamaaGreatDoor
open Go Go.RowKit
theorem zqa (x : Int) (h0 : -9223372036854775808 ≤ x) (h1 : x ≤ 9223372036854775807) : IntKind.i64.wrap x = x := by
 unfold IntKind.wrap
 simp [IntKind.signed, IntKind.bits]
 omega
theorem Made.kept {own : Nat → Prop} {base : Nat} {w w' : World} {s : Sl} {k : Nat} {xs : List Value} (h : Made base w s k xs) (g : Kept own w w') (hn : ∀ b, s.owns b → ¬ own b) : Made base w' s k xs :=
 ⟨h.cells.kept g hn, Room.kept h.room g hn, fun b hb => ⟨(h.own b hb).1, Nat.lt_of_lt_of_le (h.own b hb).2 g.size⟩⟩
theorem Made.off {b base : Nat} {w w' : World} {s : Sl} {k : Nat} {xs : List Value} (h : Made base w s k xs) (g : Off b w w') (e1 : w'.os = w.os) (e2 : w'.tape = w.tape) (e3 : w'.output = w.output) (hb : b < base) : Made base w' s k xs :=
 h.kept (Off.kept g e1 e2 e3) (fun b' hb' e => by have := (h.own b' hb').1; omega)
@[go_sem ↓] theorem z8z (ρ : Operand → Value) (dst : Option Tmp) (x y : Operand) (ty : TypeId) (pos : String) (after : Array Edge) (guard : Option (Nat × Bool)) :
 execOp ρ { dst, op := .store 30 x y, type := ty, pos, after, guard } = zaz 30 (ρ x) (ρ y) := rfl
@[go_sem] theorem zx2 (w : World) (b o : Nat) (s : Sl) (h : (w.cell? ⟨b, o, none⟩).isSome = true) (hf : w.frozen? ⟨b, o, none⟩ = false) : (zaz 30 (.pointer (some ⟨b, o, none⟩)) s.val).run Tryz.prog w = .ok .skip (w.setCell ⟨b, o, none⟩ s.val) :=
 zcf w b o 30 s (by kernel_rfl) h hf
@[go_sem] theorem zx5 (w : World) (b o sb so n c : Nat) (h : (w.cell? ⟨b, o, none⟩).isSome = true) (hf : w.frozen? ⟨b, o, none⟩ = false) : (zaz 30 (.pointer (some ⟨b, o, none⟩)) (.slice (some ⟨sb, so, none⟩) n c)).run Tryz.prog w = .ok .skip (w.setCell ⟨b, o, none⟩ (.slice (some ⟨sb, so, none⟩) n c)) :=
 zcf w b o 30 (.mk sb so n c) (by kernel_rfl) h hf
@[go_sem] theorem EfV.set4 (c : EfV) (s : Sl) : c.arr.setIfInBounds 4 s.val = EfV.arr { c with subs := s } := rfl
@[go_sem] theorem EfV.set4' (c : EfV) (b o n k : Nat) : c.arr.setIfInBounds 4 (.slice (some ⟨b, o, none⟩) n k) = EfV.arr { c with subs := .mk b o n k } := rfl
theorem zrb (r : List Int) : zai (z88 r) = true := EfV.one _
@[go_sem] theorem z9d (a b c d : Int) : Value.agg #[.int .i64 a, .int .i64 b, .int .i64 c, .int .i64 d, .slice none 0 0] = .agg (EfV.arr ⟨a, b, c, d, .nil⟩) := rfl
set_option maxRecDepth 100000 in
set_option maxHeartbeats 4000000 in
theorem zc1 (w : World) (s : Sl) (l : List Int) (R : Ints w s l) (q : Nat) (hq : l.length = 4 * (q + 1)) (hq2 : q ≤ 100) :
 Calls Tryz.prog 124 #[s.val] w fun e w' => ∃ x : EfV, e = .returned (.agg x.arr) ∧ EfIs w' w.heap.size x (effL l) ∧ Grow w w' := by
 have hsn := R.len
 obtain ⟨b0, c0⟩ := R.at 0 (by omega)
 obtain ⟨_, c1⟩ := R.at 1 (by omega)
 obtain ⟨_, c2⟩ := R.at 2 (by omega)
 obtain ⟨_, c3⟩ := R.at 3 (by omega)
 have ne : ¬ s.b = w.heap.size := by omega
 rw [Nat.add_zero] at c0
 change _ = some (Value.int .i64 (gt l 0)) at c0
 change _ = some (Value.int .i64 (gt l 1)) at c1
 change _ = some (Value.int .i64 (gt l 2)) at c2
 change _ = some (Value.int .i64 (gt l 3)) at c3
 have n0 : 0 < s.n := by omega
 have n1 : (1 : Int) < s.n := by omega
 have n2 : (2 : Int) < s.n := by omega
 have n3 : (3 : Int) < s.n := by omega
 have HR := Lib.hid R
 have HN := Lib.hid hsn
 clear R hsn
 go_enter Tryz.func124, Tryz.ntmps124
 go_wp2_with fail
 go_region_held3 (fun W => W.cell? ⟨s.b, s.o, none⟩ = some (.int .i64 (gt l 0)) ∧ W.cell? ⟨s.b, s.o + 1, none⟩ = some (.int .i64 (gt l 1)) ∧ W.cell? ⟨s.b, s.o + 2, none⟩ = some (.int .i64 (gt l 2)) ∧ W.cell? ⟨s.b, s.o + 3, none⟩ = some (.int .i64 (gt l 3))) (simp [go_sem, *]) (fail)
 generalize ha0 : gt l 0 = a0 at *
 generalize ha1 : gt l 1 = a1 at *
 generalize ha2 : gt l 2 = a2 at *
 generalize ha3 : gt l 3 = a3 at *
 clear c0 c1 c2 c3
 have HL : Hid (effL l = ⟨a0, a1, a2, a3, zhn l (l.length / 4 - 1)⟩) := by rw [Hid, effL, ha0, ha1, ha2, ha3]
 clear ha0 ha1 ha2 ha3
 go_wp2_with fail
 go_loopw [4] (fun i wr => ∃ (c k : Nat) (sub : Sl), k ≤ q ∧ Hid (c = 4 + 4 * k) ∧ i = .int .i64 c ∧ Made (w.heap.size + 2) wr sub 5 (zda ((zhn l k).map z88)) ∧ sub.n = k ∧ Grow ((w.alloc (.cells (EfV.arr ⟨0, 0, 0, 0, .nil⟩) 32)).alloc (.cells (EfV.arr ⟨a0, a1, a2, a3, sub⟩) 32)) wr) (fun i _ => 4 * q + 4 - (intOf i).toNat)
 case atStart => exact ⟨4, 0, .nil, by omega, rfl, rfl, Made.nil _ _ _, rfl, grI⟩
 case round =>
  obtain ⟨c, k, sub, hk, hc, rfl, hM, hsn, hG⟩ := hrel
  obtain ⟨x, rfl⟩ := hG
  have HM := Lib.hid hM
  clear hM
  by_cases hlt : k < q
  · have hcb : c ≤ 404 := by have := hc.out; omega
    have hcl : c + 3 < s.n := by have := HN.out; have := hc.out; omega
    obtain ⟨_, d0⟩ := HR.out.at c (by have := HN.out; omega)
    obtain ⟨_, d1⟩ := HR.out.at (c + 1) (by have := HN.out; omega)
    obtain ⟨_, d2⟩ := HR.out.at (c + 2) (by have := HN.out; omega)
    obtain ⟨_, d3⟩ := HR.out.at (c + 3) (by have := HN.out; omega)
    change _ = some (Value.int .i64 (gt l c)) at d0
    change _ = some (Value.int .i64 (gt l (c + 1))) at d1
    change _ = some (Value.int .i64 (gt l (c + 2))) at d2
    change _ = some (Value.int .i64 (gt l (c + 3))) at d3
    have HS : Hid (zhn l (k + 1) = zhn l k ++ [[gt l c, gt l (c + 1), gt l (c + 2), gt l (c + 3)]]) := by rw [Hid, zp6, hc.out, show 4 + 4 * k + 1 = 5 + 4 * k by omega, show 4 + 4 * k + 2 = 6 + 4 * k by omega, show 4 + 4 * k + 3 = 7 + 4 * k by omega]
    generalize gt l c = b0 at *
    generalize gt l (c + 1) = b1 at *
    generalize gt l (c + 2) = b2 at *
    generalize gt l (c + 3) = b3 at *
    have j0 : (c : Int) < s.n := by omega
    have j1 : (c : Int) + 1 < s.n := by omega
    have j2 : (c : Int) + 2 < s.n := by omega
    have j3 : (c : Int) + 3 < s.n := by omega
    have p1 : (0 : Int) ≤ (c : Int) + 1 := by omega
    have p2 : (0 : Int) ≤ (c : Int) + 2 := by omega
    have p3 : (0 : Int) ≤ (c : Int) + 3 := by omega
    have r1 : IntKind.i64.wrap ((c : Int) + 1) = (c : Int) + 1 := zqa _ (by omega) (by have := hc.out; omega)
    have r2 : IntKind.i64.wrap ((c : Int) + 2) = (c : Int) + 2 := zqa _ (by omega) (by have := hc.out; omega)
    have r3 : IntKind.i64.wrap ((c : Int) + 3) = (c : Int) + 3 := zqa _ (by omega) (by have := hc.out; omega)
    have m1 : ((c : Int) + 1).toNat = c + 1 := by omega
    have m2 : ((c : Int) + 2).toNat = c + 2 := by omega
    have m3 : ((c : Int) + 3).toNat = c + 3 := by omega
    have hW0 : ((w.alloc (.cells (EfV.arr ⟨0, 0, 0, 0, .nil⟩) 32)).alloc (.cells (EfV.arr ⟨a0, a1, a2, a3, sub⟩) 32)).heap.size = w.heap.size + 2 := by simp only [zaa]
    have HW0 := Lib.hid hW0
    clear hW0
    go_wp2_with fail
    refine wp_region_noPanic ?_; refine zmo [0, 1, 2, 3, 4, 5, 6, 7, 8, 9, 10, 11, 12, 13, 14, 15, 16, 17, 18, 19, 20, 21] 22 23 [24, 25] _ (by kernel_rfl) (fun _ _ _ _ h => h) rfl (by kernel_rfl) ?_; simp only [zby, List.getElem?_cons_zero, List.getElem?_cons_succ]; (repeat (go_big_quiet_step (fail))); refine wpQuiet_nil ?_; rintro _ ⟨nx, rfl⟩; intro K hK
    go_simp
    refine hK _ _ (show Grow _ _ from grI) ?_
    clear hK K
    go_wp2_with ((at_builtin; refine zbc rfl _ _ 30 rfl 32 Tryz.t32 (.agg (EfV.arr ⟨0, 0, 0, 0, .nil⟩)) 5 56 Tryz.underlying30 (by kernel_rfl) (by kernel_rfl) (by kernel_rfl) (by kernel_rfl) (by omega) rfl ((w.alloc (.cells (EfV.arr ⟨0, 0, 0, 0, .nil⟩) 32)).alloc (.cells (EfV.arr ⟨a0, a1, a2, a3, sub⟩) 32)) sub (.mk _ 0 1 1) (zda ((zhn l k).map z88)) (zda [z88 [b0, b1, b2, b3]]) rfl rfl (by rw [HW0.out]; exact HM.out.grow grI) grI (RowsV.one (x := EfV.arr _) (by go_simp) (by go_simp; rfl) (by go_simp)).cells (zdb (fun x hx => by obtain ⟨a, _, rfl⟩ := List.mem_map.1 hx; exact zrb a)) (zdb (by simp [zrb])) (by show sub.n + 1 ≤ 4194304; omega) ?_; intro s3 y3 c1 _ c3 _; have C := Lib.hid (And.intro c1 c3); clear c1 c3))
    refine NoPanic.normal ?_
    all_goals
     go_wp2_with fail
     go_roundw
     case rel =>
      have h2 := C.out.1.off (b := w.heap.size + 1) (w' := ((w.alloc (.cells (EfV.arr ⟨0, 0, 0, 0, .nil⟩) 32)).alloc (.cells (EfV.arr ⟨a0, a1, a2, a3, s3⟩) 32)).plus y3) (by repeat (first | exact Off.base _ _ _ _ (zaa _ _).symm | refine Off.plus ?_ _ | refine Off.alloc ?_ _)) rfl rfl rfl (by rw [HW0.out]; omega)
      rw [HW0.out] at h2
      exact ⟨c + 4, k + 1, s3, by omega, by have := hc.out; show c + 4 = 4 + 4 * (k + 1); omega, by go_num, by rw [HS.out, List.map_append, zeg]; exact h2, by rw [C.out.2]; show sub.n + 1 = k + 1; omega, grI⟩
     case measure => simp [intOf]; have := hc.out; omega
  · have hcl : ¬ c < s.n := by have := HN.out; have := hc.out; omega
    go_wp2_with fail
    have hkq : k = q := by omega
    subst hkq
    refine bodyPost_ret (zdn rfl _ _ _ rfl ?_) rfl ?_
    · go_simp
    refine ⟨⟨a0, a1, a2, a3, sub⟩, by go_simp, ⟨by rw [HL.out], by rw [HL.out], by rw [HL.out], by rw [HL.out], ?_, fun b hb => by have := (HM.out.own b hb).1; omega⟩, grI⟩
    have h2 := HM.out.off (b := w.heap.size) (w' := ((w.alloc (.cells (EfV.arr ⟨a0, a1, a2, a3, sub⟩) 32)).alloc (.cells (EfV.arr ⟨a0, a1, a2, a3, sub⟩) 32)).plus x) (by repeat (first | exact Off.base _ _ _ _ rfl | refine Off.plus ?_ _ | refine Off.alloc ?_ _)) rfl rfl rfl (by omega)
    rw [HL.out]
    have hk2 : l.length / 4 - 1 = k := by omega
    rw [hk2]
    exact h2.cells.rowsV (by omega) (fun x hx => by obtain ⟨r, _, rfl⟩ := List.mem_map.1 hx; rfl)
end Go.Proofs.YthfalocligkamaaGreatDoor
namespace Go.Proofs.YthfalocligkamaaGreatDoor
open Go Go.RowKit
@[go_sem] theorem zth (w : World) (a b c : Int) : (za0 32 #[(0, .int .i64 a), (1, .int .i64 b), (2, .int .i64 c)]).run Tryz.prog w = .ok (.value (.agg (EfV.arr ⟨a, b, c, 0, .nil⟩))) w := by kernel_rfl
@[go_sem] theorem ztg (w : World) (a b : Int) : (za0 32 #[(0, .int .i64 a), (1, .int .i64 b)]).run Tryz.prog w = .ok (.value (.agg (EfV.arr ⟨a, b, 0, 0, .nil⟩))) w := by kernel_rfl
@[go_sem] theorem zq6 (w : World) (a b c : Int) : (za0 32 #[(0, .int .i64 a), (1, .int .i64 b), (3, .int .i64 c)]).run Tryz.prog w = .ok (.value (.agg (EfV.arr ⟨a, b, 0, c, .nil⟩))) w := by kernel_rfl
set_option maxRecDepth 100000 in
theorem zhv (w : World) (n c : Int) : Calls Tryz.prog 122 #[.int .i64 n, .int .i64 c] w fun e w' => ∃ a : AbV, e = .returned (.agg a.arr) ∧ AbIs w' w.heap.size a ⟨6, noCost, true, 0, ⟨15, n, c, 0, []⟩⟩ ∧ Grow w w' := by
 go_enter Tryz.func122, Tryz.ntmps122
 go_wp2_with fail
 refine bodyPost_ret (za6 rfl _ _ _ rfl ?_) rfl ?_
 · go_simp
 exact ⟨⟨6, 0, 0, 0, 0, 0, 0, true, 0, ⟨15, n, c, 0, .nil⟩⟩, by go_simp, ⟨rfl, rfl, rfl, rfl, ⟨rfl, rfl, rfl, rfl, RowsV.nil _ _, fun _ h => h.elim⟩⟩, grI⟩
def Sl.aft (s : Sl) (j : Nat) : Sl := match s with
 | .nil => .nil
 | .mk b o n c => .mk b (if c = j then o else o + j) (n - j) (c - j)
@[go_sem] theorem z27 (w : World) (s : Sl) (q : IntKind) (i : Int) (h0 : 0 ≤ i) (h1 : i ≤ s.n) : (Instr.slice 23 s.val (some (.int q i)) none none).run Tryz.prog w = .ok (s.aft i.toNat).val w := by
 have hk : ∀ w, (sizeOf 3).run Tryz.prog w = .ok 1 w := fun w => by kernel_rfl
 cases s with
 | nil =>
   have : i = 0 := by simp [Sl.n] at h1; omega
   subst this
   simp [Instr.slice, Sl.val, Sl.aft, run_underlying Tryz.underlying23, hk, Instr.sliceBounds, run_sliceBound]
 | mk b o n c =>
   simp only [Sl.n] at h1
   simp only [Instr.slice, Sl.val, Sl.aft, Sem.run_bind, run_underlying Tryz.underlying23, Result.andThen_ok, Instr.sliceBounds, Sem.run_pure, run_sliceBound w q i n _ h0 h1, hk]
   split <;> simp [Addr.add]
theorem Ints.aft {w : World} {s : Sl} {l : List Int} (h : Ints w s l) (j : Nat) (hj : j < l.length) : Ints w (s.aft j) (l.drop j) := by
 cases s with
 | nil => have := h.len; simp [Sl.n] at this; omega
 | mk b o n c =>
   have hn : n = l.length := h.len
   have hc : n ≤ c := h.cap
   refine ⟨by simp [Sl.aft, Sl.n, hn], by simp [Sl.aft, Sl.n, Sl.c]; omega, fun i hi => ?_⟩
   simp at hi
   have h1 := (h.at (j + i) (by omega)).2
   simp only [Sl.aft, Sl.b, Sl.o] at h1 ⊢
   rw [if_neg (by omega), Nat.add_assoc o, h1]
   simp [gt, List.getD, List.getElem?_drop]
@[go_sem] theorem zpv (w : World) (a : Int) (t : Bool) (g : Int) (e : EfV) : (za0 152 #[(0, .int .i64 a), (2, .bool t), (3, .int .i64 g), (4, .agg e.arr)]).run Tryz.prog w = .ok (.value (.agg (AbV.arr ⟨a, 0, 0, 0, 0, 0, 0, t, g, e⟩))) w := by
 obtain ⟨op, n, m, who, s⟩ := e; cases s <;> kernel_rfl
@[go_sem] theorem AbV.set2 (a : AbV) (x : Int) : a.arr.setIfInBounds 2 (.int .i64 x) = AbV.arr { a with c1 := x } := rfl
@[go_sem] theorem AbV.set6 (a : AbV) (x : Int) : a.arr.setIfInBounds 6 (.int .i64 x) = AbV.arr { a with c5 := x } := rfl
set_option maxRecDepth 100000 in
set_option maxHeartbeats 4000000 in
theorem zcb (w : World) (s : Sl) (l : List Int) (R : Ints w s l) (q : Nat) (hq : l.length = 4 * (q + 2)) (hq2 : q ≤ 100) (hc : gt l 1 = -1 ∨ gt l 1 = 1 ∨ gt l 1 = 5) :
 Calls Tryz.prog 125 #[s.val] w fun e w' => ∃ a : AbV, e = .returned (.agg a.arr) ∧ AbIs w' w.heap.size a (abL l) ∧ Grow w w' := by
 have hsn := R.len
 obtain ⟨b0, c0⟩ := R.at 0 (by omega)
 obtain ⟨_, c1⟩ := R.at 1 (by omega)
 obtain ⟨_, c2⟩ := R.at 2 (by omega)
 obtain ⟨_, c3⟩ := R.at 3 (by omega)
 have ne : ¬ s.b = w.heap.size := by omega
 rw [Nat.add_zero] at c0
 change _ = some (Value.int .i64 (gt l 0)) at c0
 change _ = some (Value.int .i64 (gt l 1)) at c1
 change _ = some (Value.int .i64 (gt l 2)) at c2
 change _ = some (Value.int .i64 (gt l 3)) at c3
 have n0 : 0 < s.n := by omega
 have n1 : (1 : Int) < s.n := by omega
 have n2 : (2 : Int) < s.n := by omega
 have n3 : (3 : Int) < s.n := by omega
 have n4 : (4 : Int) ≤ s.n := by omega
 have HE := Lib.hid (fun W (g : Grow w W) => zc1 W (s.aft 4) (l.drop 4) ((R.grow g).aft 4 (by omega)) q (by simp; omega) hq2)
 clear R hsn
 have HA : Hid (abL l = ⟨gt l 0, if 0 ≤ gt l 1 then noCost.set (gt l 1).toNat 1 else noCost, gt l 2 == 1, gt l 3, effL (l.drop 4)⟩) := rfl
 generalize gt l 0 = a0 at *
 generalize gt l 2 = a2 at *
 generalize gt l 3 = a3 at *
 generalize effL (l.drop 4) = f at *
 rcases hc with hc | hc | hc
 all_goals
  rw [hc] at c1 HA
  go_enter Tryz.func125, Tryz.ntmps125
  go_wp2_with fail
 all_goals
  go_region_held3 (fun W => W.cell? ⟨s.b, s.o, none⟩ = some (.int .i64 a0) ∧ (∃ k1, gt l 1 = k1 ∧ W.cell? ⟨s.b, s.o + 1, none⟩ = some (.int .i64 k1)) ∧ W.cell? ⟨s.b, s.o + 2, none⟩ = some (.int .i64 a2) ∧ W.cell? ⟨s.b, s.o + 3, none⟩ = some (.int .i64 a3)) (simp [go_sem, *]) (first | (go_at_call 124; refine (HE.out _ grI).mono ?_; rintro e' w' ⟨x, rfl, hx, nx, rfl⟩; (try simp only [zae] at hx); (try simp only [zad] at hx); have HX := Lib.hid hx; clear hx))
 · go_wp2_with fail
   refine bodyPost_ret (za6 rfl _ _ _ rfl ?_) rfl ?_
   · go_simp
   refine ⟨⟨a0, 0, 0, 0, 0, 0, 0, a2 == 1, a3, x⟩, by go_simp, ?_, grI⟩
   rw [HA.out]
   refine ⟨rfl, rfl, rfl, rfl, ?_⟩
   exact (((HX.out.less (m := w.heap.size + 1) (by simp only [zar, zaa]; omega)).off (b := w.heap.size) (w' := (w.alloc (.cells (AbV.arr ⟨a0, 0, 0, 0, 0, 0, 0, a2 == 1, a3, x⟩) 152)).plus nx.late) (by repeat (first | exact Off.base _ _ _ _ rfl | refine Off.plus ?_ _ | refine Off.alloc ?_ _)) (by omega)).less (by omega)).grow grI
 · go_wp2_with fail
   refine bodyPost_ret (za6 rfl _ _ _ rfl ?_) rfl ?_
   · go_simp
   refine ⟨⟨a0, 0, 0, 0, 0, 0, 0, a2 == 1, a3, x⟩, by go_simp, ?_, grI⟩
   rw [HA.out]
   refine ⟨rfl, rfl, rfl, rfl, ?_⟩
   exact ((((HX.out.less (m := w.heap.size + 2) (by simp only [zar, zaa]; omega)).off (b := w.heap.size + 1) (w' := ((w.alloc (.cells (AbV.arr ⟨0, 0, 0, 0, 0, 0, 0, false, 0, ⟨0, 0, 0, 0, .nil⟩⟩) 152)).alloc (.cells (AbV.arr ⟨a0, 0, 0, 0, 0, 0, 0, a2 == 1, a3, x⟩) 152)).plus nx.late) (by repeat (first | exact Off.base _ _ _ _ (zaa _ _).symm | refine Off.plus ?_ _ | refine Off.alloc ?_ _)) (by omega)).off (b := w.heap.size) (w' := ((w.alloc (.cells (AbV.arr ⟨a0, 0, 0, 0, 0, 0, 0, a2 == 1, a3, x⟩) 152)).alloc (.cells (AbV.arr ⟨a0, 0, 0, 0, 0, 0, 0, a2 == 1, a3, x⟩) 152)).plus nx.late) (by repeat (first | exact Off.base _ _ _ _ rfl | refine Off.plus ?_ _ | refine Off.alloc ?_ _)) (by omega)).less (by omega)).grow grI
 · go_wp2_with fail
   refine bodyPost_ret (za6 rfl _ _ _ rfl ?_) rfl ?_
   · go_simp
   refine ⟨⟨a0, 0, 1, 0, 0, 0, 0, a2 == 1, a3, x⟩, by go_simp, ?_, grI⟩
   rw [HA.out]
   refine ⟨rfl, rfl, rfl, rfl, ?_⟩
   exact (((HX.out.less (m := w.heap.size + 1) (by simp only [zar, zaa]; omega)).off (b := w.heap.size) (w' := (w.alloc (.cells (AbV.arr ⟨a0, 0, 1, 0, 0, 0, 0, a2 == 1, a3, x⟩) 152)).plus nx.late) (by repeat (first | exact Off.base _ _ _ _ rfl | refine Off.plus ?_ _ | refine Off.alloc ?_ _)) (by omega)).less (by omega)).grow grI
 · go_wp2_with fail
   refine bodyPost_ret (za6 rfl _ _ _ rfl ?_) rfl ?_
   · go_simp
   refine ⟨⟨a0, 0, 1, 0, 0, 0, 0, a2 == 1, a3, x⟩, by go_simp, ?_, grI⟩
   rw [HA.out]
   refine ⟨rfl, rfl, rfl, rfl, ?_⟩
   exact ((((HX.out.less (m := w.heap.size + 2) (by simp only [zar, zaa]; omega)).off (b := w.heap.size + 1) (w' := ((w.alloc (.cells (AbV.arr ⟨0, 0, 0, 0, 0, 0, 0, false, 0, ⟨0, 0, 0, 0, .nil⟩⟩) 152)).alloc (.cells (AbV.arr ⟨a0, 0, 1, 0, 0, 0, 0, a2 == 1, a3, x⟩) 152)).plus nx.late) (by repeat (first | exact Off.base _ _ _ _ (zaa _ _).symm | refine Off.plus ?_ _ | refine Off.alloc ?_ _)) (by omega)).off (b := w.heap.size) (w' := ((w.alloc (.cells (AbV.arr ⟨a0, 0, 1, 0, 0, 0, 0, a2 == 1, a3, x⟩) 152)).alloc (.cells (AbV.arr ⟨a0, 0, 1, 0, 0, 0, 0, a2 == 1, a3, x⟩) 152)).plus nx.late) (by repeat (first | exact Off.base _ _ _ _ rfl | refine Off.plus ?_ _ | refine Off.alloc ?_ _)) (by omega)).less (by omega)).grow grI
 · go_wp2_with fail
   refine bodyPost_ret (za6 rfl _ _ _ rfl ?_) rfl ?_
   · go_simp
   refine ⟨⟨a0, 0, 0, 0, 0, 0, 1, a2 == 1, a3, x⟩, by go_simp, ?_, grI⟩
   rw [HA.out]
   refine ⟨rfl, rfl, rfl, rfl, ?_⟩
   exact (((HX.out.less (m := w.heap.size + 1) (by simp only [zar, zaa]; omega)).off (b := w.heap.size) (w' := (w.alloc (.cells (AbV.arr ⟨a0, 0, 0, 0, 0, 0, 1, a2 == 1, a3, x⟩) 152)).plus nx.late) (by repeat (first | exact Off.base _ _ _ _ rfl | refine Off.plus ?_ _ | refine Off.alloc ?_ _)) (by omega)).less (by omega)).grow grI
 · go_wp2_with fail
   refine bodyPost_ret (za6 rfl _ _ _ rfl ?_) rfl ?_
   · go_simp
   refine ⟨⟨a0, 0, 0, 0, 0, 0, 1, a2 == 1, a3, x⟩, by go_simp, ?_, grI⟩
   rw [HA.out]
   refine ⟨rfl, rfl, rfl, rfl, ?_⟩
   exact ((((HX.out.less (m := w.heap.size + 2) (by simp only [zar, zaa]; omega)).off (b := w.heap.size + 1) (w' := ((w.alloc (.cells (AbV.arr ⟨0, 0, 0, 0, 0, 0, 0, false, 0, ⟨0, 0, 0, 0, .nil⟩⟩) 152)).alloc (.cells (AbV.arr ⟨a0, 0, 0, 0, 0, 0, 1, a2 == 1, a3, x⟩) 152)).plus nx.late) (by repeat (first | exact Off.base _ _ _ _ (zaa _ _).symm | refine Off.plus ?_ _ | refine Off.alloc ?_ _)) (by omega)).off (b := w.heap.size) (w' := ((w.alloc (.cells (AbV.arr ⟨a0, 0, 0, 0, 0, 0, 1, a2 == 1, a3, x⟩) 152)).alloc (.cells (AbV.arr ⟨a0, 0, 0, 0, 0, 0, 1, a2 == 1, a3, x⟩) 152)).plus nx.late) (by repeat (first | exact Off.base _ _ _ _ rfl | refine Off.plus ?_ _ | refine Off.alloc ?_ _)) (by omega)).less (by omega)).grow grI
end Go.Proofs.YthfalocligkamaaGreatDoor
namespace Go.Proofs.YthfalocligkamaaGreatDoor
open Go Go.RowKit
@[go_sem] theorem CdV.set0 (c : CdV) (x : Int) : c.arr.setIfInBounds 0 (.int .i64 x) = CdV.arr { c with kind := x } := rfl
@[go_sem] theorem CdV.set1 (c : CdV) (x : Int) : c.arr.setIfInBounds 1 (.int .i64 x) = CdV.arr { c with col := x } := rfl
@[go_sem] theorem CdV.set2 (c : CdV) (x : Bool) : c.arr.setIfInBounds 2 (.bool x) = CdV.arr { c with fast := x } := rfl
@[go_sem] theorem CdV.set3 (c : CdV) (x : Int) : c.arr.setIfInBounds 3 (.int .i64 x) = CdV.arr { c with c0 := x } := rfl
@[go_sem] theorem CdV.set4 (c : CdV) (x : Int) : c.arr.setIfInBounds 4 (.int .i64 x) = CdV.arr { c with c1 := x } := rfl
@[go_sem] theorem CdV.set5 (c : CdV) (x : Int) : c.arr.setIfInBounds 5 (.int .i64 x) = CdV.arr { c with c2 := x } := rfl
@[go_sem] theorem CdV.set6 (c : CdV) (x : Int) : c.arr.setIfInBounds 6 (.int .i64 x) = CdV.arr { c with c3 := x } := rfl
@[go_sem] theorem CdV.set7 (c : CdV) (x : Int) : c.arr.setIfInBounds 7 (.int .i64 x) = CdV.arr { c with c4 := x } := rfl
@[go_sem] theorem CdV.set8 (c : CdV) (x : Int) : c.arr.setIfInBounds 8 (.int .i64 x) = CdV.arr { c with c5 := x } := rfl
@[go_sem] theorem CdV.get1 (c : CdV) : c.arr[1]? = some (I c.col) := rfl
@[go_sem] theorem CdV.get1' (c : CdV) (h : 1 < c.arr.size) : c.arr[1]'h = I c.col := rfl
@[go_sem] theorem z6j (w : World) : (za0 99 #[(1, .int .i64 5)]).run Tryz.prog w = .ok (.value (.agg (CdV.arr ⟨0, 5, false, 0, 0, 0, 0, 0, 0, 0, 0, 0, .nil⟩))) w := by kernel_rfl
def zcz (w w' : World) (r : Ending) (d : CardF) : Prop := ∃ c : CdV, r = .returned (.tuple #[.agg c.arr, .bool true]) ∧ CardIs w' w.heap.size c d ∧ Grow w w'
theorem AbIs.free {w : World} {n : Nat} {a : AbV} {f : AbF} (h : AbIs w n a f) (hs : f.ef.subs = []) (w' : World) : AbIs w' n a f :=
 ⟨h.wh, h.cost, h.tap, h.tg, ⟨h.ef.op, h.ef.amt, h.ef.mor, h.ef.who, by
  have hl := h.ef.subs.len
  rw [hs] at hl ⊢
  exact ⟨hl, h.ef.subs.cap, fun x hx => by simp at hx, fun i j x hx => by simp at hx⟩, h.ef.low⟩⟩
theorem AbIs.turn {w : World} {A A' B B' : Obj} {x : Ext} {n : Nat} {a : AbV} {f : AbF} (h : AbIs (((w.alloc A).alloc B).plus x) n a f) (hn : w.heap.size + 2 ≤ n) : AbIs (((w.alloc A').alloc B').plus x) n a f :=
 (h.off (b := w.heap.size + 1) (w' := ((w.alloc A).alloc B').plus x) (by repeat (first | exact Off.base _ _ _ _ (zaa _ _).symm | refine Off.plus ?_ _ | refine Off.alloc ?_ _)) (by omega)).off (b := w.heap.size) (by repeat (first | exact Off.base _ _ _ _ rfl | refine Off.plus ?_ _ | refine Off.alloc ?_ _)) (by omega)
@[go_sem] theorem yge (a b c d e : Int) (t : TypeId) (fr : Nat × Nat) : Obj.cells #[.int .i64 a, .int .i64 b, .int .i64 c, .int .i64 d, .int .i64 e] t fr = .cells (cellsOf [a, b, c, d, e]) t fr := rfl
@[go_sem] theorem ygf (a b c d e f g h : Int) (t : TypeId) (fr : Nat × Nat) : Obj.cells #[.int .i64 a, .int .i64 b, .int .i64 c, .int .i64 d, .int .i64 e, .int .i64 f, .int .i64 g, .int .i64 h] t fr = .cells (cellsOf [a, b, c, d, e, f, g, h]) t fr := rfl
set_option maxRecDepth 100000 in
set_option maxHeartbeats 4000000 in
theorem zrt (w : World) (n : Nat) (hn : n < 5) : Calls Tryz.prog 88 #[.int .i64 (n : Int)] w fun r w' => zcz w w' r (zaq n) := by
 have HC : Hid (zaq n = ⟨0, n, false, noCost, 0, 0, 0, [zlp 1 n]⟩) := by rw [Hid, zaq, if_pos hn]
 go_enter Tryz.func88, Tryz.ntmps88
 go_wp2_with (go_at_call 122; refine (zhv _ _ _).mono ?_; rintro e' w' ⟨a, rfl, ha, nx, rfl⟩; (try simp only [zae] at ha); (try simp only [zad] at ha); have HA := Lib.hid ha; clear ha)
 refine bodyPost_ret (zaj rfl _ _ _ rfl ?_) rfl ?_
 · go_simp
 rw [HC.out]
 refine ⟨_, (by go_simp; rfl), ⟨rfl, rfl, rfl, rfl, rfl, rfl, rfl, ?_⟩, grI⟩
 exact ⟨[a], RowsV.one (x := AbV.arr a) (by go_simp) (by go_simp) (by go_simp), .inr (by first | (go_simp; done) | (go_simp; omega) | (simp only [Sl.b]; go_simp; omega)), .cons (((HA.out.turn (by simp only [zaa]; omega)).less (by first | (go_simp; done) | (go_simp; omega) | (simp only [Sl.b]; go_simp; omega))).grow grI) .nil⟩
set_option maxRecDepth 100000 in
set_option maxHeartbeats 4000000 in
theorem zoo (w : World) (n : Nat) (hn : n < 5) : Calls Tryz.prog 88 #[.int .i64 ((n : Int) + 5)] w fun r w' => zcz w w' r (zaq (n + 5)) := by
 have HC : Hid (zaq (n + 5) = ⟨0, 5, false, noCost, 0, 0, 0, [zfi ⟨3, (n : Int) + 1, 0, 0, []⟩, zlp (gt [1, 1, 2, 2, 3] n) 5]⟩) := by
  rw [Hid, zaq, if_neg (by omega), if_pos (by omega), show n + 5 - 5 = n by omega, show ((n + 5 : Nat) : Int) - 4 = n + 1 by omega]
 go_enter Tryz.func88, Tryz.ntmps88
 go_wp2_with (go_at_call 122; refine (zhv _ _ _).mono ?_; rintro e' w' ⟨a, rfl, ha, nx, rfl⟩; (try simp only [zae] at ha); (try simp only [zad] at ha); have HA := Lib.hid ha; clear ha)
 refine bodyPost_ret (zaj rfl _ _ _ rfl ?_) rfl ?_
 · go_simp
 rw [HC.out]
 refine ⟨_, (by go_simp; rfl), ⟨rfl, rfl, rfl, rfl, rfl, rfl, rfl, ?_⟩, grI⟩
 refine ⟨[⟨2, 0, 0, 0, 0, 0, 0, false, 0, ⟨3, (n : Int) + 5 - 4, 0, 0, .nil⟩⟩, a], RowsV.two (x := AbV.arr _) (y := AbV.arr a) (by go_simp) (by go_simp) (by go_simp) (by go_simp), .inr (by first | (go_simp; done) | (go_simp; omega) | (simp only [Sl.b]; go_simp; omega)), .cons ⟨rfl, rfl, rfl, rfl, ?_⟩ (.cons (((HA.out.free rfl _).less (by first | (go_simp; done) | (go_simp; omega) | (simp only [Sl.b]; go_simp; omega)))) .nil)⟩
 rw [show (n : Int) + 1 = (n : Int) + 5 - 4 by omega]
 exact EfIs.plain _ _ _ _ _ _
set_option maxRecDepth 100000 in
set_option maxHeartbeats 4000000 in
theorem zvk (w : World) (n : Nat) (hn : n < 8) : Calls Tryz.prog 88 #[.int .i64 ((n : Int) + 112)] w fun r w' => zcz w w' r (zaq (n + 112)) := by
 have HC : Hid (zaq (n + 112) = ⟨1, 5, false, noCost, gt zch n, gt zch n, ((n : Int) + 112) % 2, []⟩) := by
  rw [Hid, zaq, if_neg (by omega), if_neg (by omega), if_neg (by omega), if_neg (by omega), if_neg (by omega), if_neg (by omega), show n + 112 - 112 = n by omega]; rfl
 go_enter Tryz.func88, Tryz.ntmps88
 go_wp2_with fail
 refine bodyPost_ret (zaj rfl _ _ _ rfl ?_) rfl ?_
 · go_simp
 rw [HC.out]
 refine ⟨_, (by go_simp; rfl), ⟨rfl, rfl, rfl, rfl, rfl, rfl, rfl, ?_⟩, grI⟩
 exact ⟨[], RowsV.nil _ _, .inl rfl, .nil⟩
theorem zg1 : ∀ k, k < 8 → 0 ≤ gt [1, 1, 2, 2, 3, 3, 4, 4] k ∧ gt [1, 1, 2, 2, 3, 3, 4, 4] k ≤ 4 ∧ 0 ≤ gt [1, 2, 2, 3, 3, 4, 4, 5] k ∧ gt [1, 2, 2, 3, 3, 4, 4, 5] k ≤ 5 := by decide
@[go_sem] theorem z6k (w : World) : (za0 96 #[(3, .int .i64 1)]).run Tryz.prog w = .ok (.value (.agg (cellsOf [0, 0, 0, 1, 0, 0]))) w := by kernel_rfl
@[go_sem] theorem z6l (w : World) : (za0 96 #[(4, .int .i64 1)]).run Tryz.prog w = .ok (.value (.agg (cellsOf [0, 0, 0, 0, 1, 0]))) w := by kernel_rfl
@[go_sem] theorem z9k (w : World) (c0 c1 c2 c3 c4 c5 : Int) (e : EfV) : (za0 152 #[(0, .int .i64 1), (1, .agg (cellsOf [c0, c1, c2, c3, c4, c5])), (4, .agg e.arr)]).run Tryz.prog w = .ok (.value (.agg (AbV.arr ⟨1, c0, c1, c2, c3, c4, c5, false, 0, e⟩))) w := by
 obtain ⟨op, n, m, who, s⟩ := e; cases s <;> kernel_rfl
@[go_sem] theorem yai (w : World) : (za0 152 #[]).run Tryz.prog w = .ok (.value (.agg (AbV.arr ⟨0, 0, 0, 0, 0, 0, 0, false, 0, ⟨0, 0, 0, 0, .nil⟩⟩))) w := by kernel_rfl
end Go.Proofs.YthfalocligkamaaGreatDoor
