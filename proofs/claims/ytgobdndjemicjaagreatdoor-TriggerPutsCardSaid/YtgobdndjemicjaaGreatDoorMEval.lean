/- How strong a creature is. -/
import Derived.Test.YtgobdndjemicjaaGreatDoorMStat2
namespace Go.Proofs.YtgobdndjemicjaaGreatDoor
open Go Go.RowKit
@[go_sem ↓] theorem yad (ρ : Operand → Value) (dst : Option Tmp) (x : Operand) (ty : TypeId) (pos : String) (after : Array Edge) (guard : Option (Nat × Bool)) :
 execOp ρ { dst, op := .load 247 x, type := ty, pos, after, guard } = za8 247 (ρ x) := rfl
@[go_sem ↓] theorem z9i (ρ : Operand → Value) (dst : Option Tmp) (x y : Operand) (ty : TypeId) (pos : String) (after : Array Edge) (guard : Option (Nat × Bool)) :
 execOp ρ { dst, op := .store 247 x y, type := ty, pos, after, guard } = zas 247 (ρ x) (ρ y) := rfl
@[go_sem] theorem zlf (w : World) (b o : Nat) (h : o + 3 ≤ (w.blk b).size) : (za8 247 (.pointer (some ⟨b, o, none⟩))).run Tryz.prog w = .ok (.value (.agg (sub (w.blk b) o 3))) w :=
 zaw w b o 247 3 (by kernel_rfl) (by kernel_rfl) h (by omega)
@[go_sem] theorem zy2 (w : World) (b : Nat) (cs : Array Value) (h : (w.blk b).size = 3) (hc : cs.size = 3) (h1 : zal cs = true) (hf : w.free b = true) : (zas 247 (.pointer (some ⟨b, 0, none⟩)) (.agg cs)).run Tryz.prog w = .ok .skip (w.setRow b cs) :=
 zax w b 247 3 _ (by kernel_rfl) h hc (by omega) hf h1
@[go_sem ↓] theorem z7d (ρ : Operand → Value) (dst : Option Tmp) (parts : Array (Nat × Operand)) (ty : TypeId) (pos : String) (after : Array Edge) (guard : Option (Nat × Bool)) :
 execOp ρ { dst, op := .build 247 parts, type := ty, pos, after, guard } = za2 247 (parts.map fun (i, x) => (i, ρ x)) := rfl
@[go_sem] theorem zyo (w : World) (a b c : Int) : (za2 247 #[(0, .int .i64 a), (1, .int .i64 b), (2, .int .i64 c)]).run Tryz.prog w = .ok (.value (.agg (cellsOf [a, b, c]))) w := by kernel_rfl
@[go_sem] theorem zvx (w : World) (a b : Int) : (za2 247 #[(0, .int .i64 a), (1, .int .i64 b)]).run Tryz.prog w = .ok (.value (.agg (cellsOf [a, b, 0]))) w := by kernel_rfl
theorem zhy (w : World) (b : Nat) (h : (w.blk b).size = 3) : (loadVar 247 ⟨b, 0, none⟩).run Tryz.prog w = .ok (.agg (sub (w.blk b) 0 3)) w := by
 have := zlf w b 0 (by omega)
 unfold za8 at this
 rw [Sem.run_bind] at this
 simp only [Instr.loadAt, Instr.sureAddr, Sem.run_bind, Sem.run_pure, Result.andThen_ok] at this
 cases hr : (loadVar 247 ⟨b, 0, none⟩).run Tryz.prog w with
 | ok v w' => rw [hr] at this; simp at this; rw [this.1, this.2]
 | halt x w' => rw [hr] at this; simp [Result.andThen] at this
theorem zm1 {fn : Func} {p : Tmp} (h : fn.results = #[.cell p 247]) (tmps : Array Value) (w : World) (b : Nat) (hp : tmps.getD p undef = .pointer (some ⟨b, 0, none⟩)) (h1 : (w.blk b).size = 3) :
 (results fn tmps).run Tryz.prog w = .ok (.agg (sub (w.blk b) 0 3)) w := by
 unfold results
 rw [h]
 have e1 := zhy w b h1
 have hp' : tmps[p]?.getD undef = .pointer (some ⟨b, 0, none⟩) := by simpa using hp
 simp [asAddr, hp', e1]
theorem zg8 {fn : Func} {p q : Tmp} (h : fn.results = #[.cell p 247, .tmp q]) (tmps : Array Value) (w : World) (b : Nat) (hp : tmps.getD p undef = .pointer (some ⟨b, 0, none⟩)) (h1 : (w.blk b).size = 3) :
 (results fn tmps).run Tryz.prog w = .ok (.tuple #[.agg (sub (w.blk b) 0 3), tmps.getD q undef]) w := by
 unfold results
 rw [h]
 have e1 := zhy w b h1
 have hp' : tmps[p]?.getD undef = .pointer (some ⟨b, 0, none⟩) := by simpa using hp
 simp [asAddr, hp', e1]
def zgy (S : St) (x : StN) (d : Nat) : Bool :=
 if x.grp = 0 then true else if x.grp = 1 then gt (rowAt S.objs d) 2 == x.ctl else if x.grp = 2 then !(gt (rowAt S.objs d) 2 == x.ctl) else (gt (rowAt S.objs d) 2 == x.ctl) && !((d : Int) == x.src)
set_option maxRecDepth 100000 in
set_option maxHeartbeats 1000000 in
theorem zqp (S : St) (V : SV) (w : World) (R : RepSt w V S) (x : StV) (d : Nat) (hd : d < S.objs.length) :
 Calls Tryz.prog 282 #[.agg x.arr, .agg (stA V S.num), .int .i64 (d : Int)] w fun e w' => e = .returned (.bool (zgy S x.n d)) ∧ Grow w w' := by
 have hN := R.objs.len
 obtain ⟨hob, how, hosz, hosub, hocell⟩ := R.objs.at (by omega) d hd
 have hoc := hocell 2 (by omega)
 have hd' : (d : Int) < S.objs.length := by omega
 have HX : Hid (zgy S x.n d = if x.grp = 0 then true else if x.grp = 1 then gt (rowAt S.objs d) 2 == x.ctl else if x.grp = 2 then !(gt (rowAt S.objs d) 2 == x.ctl) else (gt (rowAt S.objs d) 2 == x.ctl) && !((d : Int) == x.src)) := rfl
 clear hocell hosub hosz R
 generalize gt (rowAt S.objs d) 2 = ctl at *
 cases hs : (ctl == x.ctl) with
 | true =>
   go_enter Tryz.func282, Tryz.ntmps282
   go_wp2_with fail
   refine zaf (by kernel_rfl) (by kernel_rfl) ?_; (repeat (go_big_quiet_step ( fail ))); refine wpQuiet_nil ?_; rintro _ ⟨nx, rfl⟩
   go_wp2_with fail
   all_goals go_ret
   all_goals exact ⟨zam (by rw [HX.out, hs]; simp_all <;> rfl), grI⟩
 | false =>
   go_enter Tryz.func282, Tryz.ntmps282
   go_wp2_with fail
   refine zaf (by kernel_rfl) (by kernel_rfl) ?_; (repeat (go_big_quiet_step ( fail ))); refine wpQuiet_nil ?_; rintro _ ⟨nx, rfl⟩
   go_wp2_with fail
   all_goals go_ret
   all_goals exact ⟨zam (by rw [HX.out, hs]; simp_all <;> rfl), grI⟩
structure Evl where
 p : Int
 t : Int
 w : Int
 mp : Int
 mt : Int
def zhs (S : St) (d : Nat) (e : Evl) (x : StN) : Evl :=
 if zgy S x d = false then e
 else if x.op = 24 then { e with p := x.n, t := x.m }
 else if x.op = 10 then { e with mp := wrap64 (e.mp + x.n), mt := wrap64 (e.mt + x.m) }
 else if x.op = 23 then { e with w := bits .or .i64 e.w x.n }
 else if x.op = 25 then { e with w := bits .andNot .i64 e.w x.n }
 else e
def ev0 (S : St) (d : Nat) : Evl := ⟨(zbp S d).pw, (zbp S d).tf, (zbp S d).says, gt (rowAt S.objs d) 7 + gt (rowAt S.objs d) 8, gt (rowAt S.objs d) 7 + gt (rowAt S.objs d) 9⟩
def evTo (S : St) (d : Nat) (k : Nat) : Evl := ((zeg S).take k).foldl (zhs S d) (ev0 S d)
def evN (S : St) (d : Nat) : Evl := (zeg S).foldl (zhs S d) (ev0 S d)
def zha (S : St) (d : Nat) : List Int := [wrap64 ((evN S d).p + (evN S d).mp), wrap64 ((evN S d).t + (evN S d).mt), bits .or .i64 (evN S d).w (gt (rowAt S.objs d) 10)]
theorem zw3 (S : St) (d k : Nat) (x : StN) (h : (zeg S)[k]? = some x) : evTo S d (k + 1) = zhs S d (evTo S d k) x := by
 unfold evTo
 rw [List.take_add_one, h, List.foldl_append]
 rfl
theorem Right.o7 {S : St} (h : Right S) {d : Nat} (hd : d < S.objs.length) : (0 ≤ gt (rowAt S.objs d) 7 ∧ gt (rowAt S.objs d) 7 ≤ 1073741824) ∧ (-1073741824 ≤ gt (rowAt S.objs d) 8 ∧ gt (rowAt S.objs d) 8 ≤ 1073741824) ∧ (-1073741824 ≤ gt (rowAt S.objs d) 9 ∧ gt (rowAt S.objs d) 9 ≤ 1073741824) :=
 ⟨h.num hd (f := 7) (by decide), h.num hd (f := 8) (by decide), h.num hd (f := 9) (by decide)⟩
theorem zo9 (S : St) : (zeg S).length ≤ 2 * (S.list 8).length := by
 unfold zeg
 induction S.list 8 with
 | nil => simp
 | cons x l ih =>
   rw [List.flatMap_cons, List.length_append, List.length_cons]
   have h1 : (zi4 S x).length ≤ 2 := by
    unfold zi4
    rw [List.length_map]
    exact Nat.le_trans (zgk _ _) (zgu S _)
   omega
set_option maxRecDepth 100000 in
set_option maxHeartbeats 4000000 in
theorem z10 (S : St) (V : SV) (w : World) (R : RepSt w V S) (hR : Right S) (hS : Small S) (d : Nat) (hd : d < S.objs.length) :
 Calls Tryz.prog 265 #[.agg (stA V S.num), .int .i64 (d : Int)] w fun e w' => e = .returned (.agg (cellsOf (zha S d))) ∧ Grow w w' := by
 have hN := R.objs.len
 obtain ⟨hob, how, hosz, hosub, hocell⟩ := R.objs.at (by omega) d hd
 obtain ⟨⟨t1, t2⟩, ⟨t3, t4⟩, t5, t6⟩ := hR.o7 hd
 have hd' : (d : Int) < S.objs.length := by omega
 have HR := Lib.hid R
 have HH := Lib.hid hR
 have HS := Lib.hid hS
 have HE : Hid (ev0 S d = ⟨(zbp S d).pw, (zbp S d).tf, (zbp S d).says, gt (rowAt S.objs d) 7 + gt (rowAt S.objs d) 8, gt (rowAt S.objs d) 7 + gt (rowAt S.objs d) 9⟩) := rfl
 have HF : Hid (zha S d = [wrap64 ((evN S d).p + (evN S d).mp), wrap64 ((evN S d).t + (evN S d).mt), bits .or .i64 (evN S d).w (gt (rowAt S.objs d) 10)]) := rfl
 clear hocell R hR hS
 generalize rowAt S.objs d = row at *
 have n1 : ¬ V.objs.b = w.heap.size := by omega
 go_enter Tryz.func265, Tryz.ntmps265
 go_wp2_with fail
 rename (Act → World → Prop) => K
 rename (∀ a w, _ → _) => hK
 have key : ∀ (X : Ext) (b5 b6 : Nat) (c : CdV), c.pw = (zbp S d).pw ∧ c.tf = (zbp S d).tf ∧ c.says = (zbp S d).says →
  w.heap.size + 2 ≤ b5 → b5 < (((w.alloc (.cells (stA V S.num) 29)).alloc (.cells (cellsOf [0, 0, 0]) 247)).plus X).heap.size → (((w.alloc (.cells (stA V S.num) 29)).alloc (.cells (cellsOf [0, 0, 0]) 247)).plus X).cell? ⟨b5, 9, none⟩ = some (I c.pw) → (((w.alloc (.cells (stA V S.num) 29)).alloc (.cells (cellsOf [0, 0, 0]) 247)).plus X).cell? ⟨b5, 10, none⟩ = some (I c.tf) → (((w.alloc (.cells (stA V S.num) 29)).alloc (.cells (cellsOf [0, 0, 0]) 247)).plus X).cell? ⟨b5, 11, none⟩ = some (I c.says) →
  w.heap.size + 2 ≤ b6 → b6 < (((w.alloc (.cells (stA V S.num) 29)).alloc (.cells (cellsOf [0, 0, 0]) 247)).plus X).heap.size → (((w.alloc (.cells (stA V S.num) 29)).alloc (.cells (cellsOf [0, 0, 0]) 247)).plus X).blk b6 = cellsOf row → (((w.alloc (.cells (stA V S.num) 29)).alloc (.cells (cellsOf [0, 0, 0]) 247)).plus X).free b6 = true →
  K { tmps := #[.agg (stA V S.num), .int .i64 (d : Int), .pointer (some ⟨w.heap.size, 0, none⟩), undef, .pointer (some ⟨w.heap.size + 1, 0, none⟩), .pointer (some ⟨b5, 0, none⟩), .pointer (some ⟨b6, 0, none⟩), undef, undef, undef, undef, .agg (stA V S.num), .int .i64 (d : Int), .agg c.arr, .pointer (some ⟨w.heap.size, 0, none⟩), V.objs.val, .int .i64 (d : Int), .pointer (some ⟨V.objs.b, V.objs.o + d * 18, none⟩), .agg (cellsOf row), undef, undef, undef, undef, undef, undef, undef, undef, undef, undef, undef, undef, undef, undef, undef, undef, undef, undef, undef, undef, undef, undef, undef, undef, undef, undef, undef, undef, undef, undef, undef, undef, undef, undef, undef, undef, undef, undef, undef, undef, undef, undef, undef, undef, undef, undef, undef, undef, undef, undef, undef, undef, undef, undef, undef, undef, undef, undef, undef, undef, undef, undef, undef, undef, undef, undef, undef, undef, undef, undef, undef, undef, undef, undef, undef, undef, undef, undef, undef, undef, undef, undef, undef, undef, undef, undef, undef, undef, undef, undef, undef, undef, undef, undef], defers := [] } (((w.alloc (.cells (stA V S.num) 29)).alloc (.cells (cellsOf [0, 0, 0]) 247)).plus X) := by
  intro X b5 b6 c hck g1 g2 g3 g4 g5 g6 g7 g8 g9
  have hc6 := fun j => zae g9 g8 j
  have h7 := (hc6 7).trans (za6 _ _ (by omega))
  have h8 := (hc6 8).trans (za6 _ _ (by omega))
  have h9 := (hc6 9).trans (za6 _ _ (by omega))
  have h10 := (hc6 10).trans (za6 _ _ (by omega))
  clear hc6 g8 g9
  have g3' : zcp ((w.alloc (.cells (stA V S.num) 29)).alloc (.cells (cellsOf [0, 0, 0]) 247)) X b5 9 = some (I c.pw) := g3
  have g4' : zcp ((w.alloc (.cells (stA V S.num) 29)).alloc (.cells (cellsOf [0, 0, 0]) 247)) X b5 10 = some (I c.tf) := g4
  have g5' : zcp ((w.alloc (.cells (stA V S.num) 29)).alloc (.cells (cellsOf [0, 0, 0]) 247)) X b5 11 = some (I c.says) := g5
  have h7' : zcp ((w.alloc (.cells (stA V S.num) 29)).alloc (.cells (cellsOf [0, 0, 0]) 247)) X b6 7 = some (I (gt row 7)) := h7
  have h8' : zcp ((w.alloc (.cells (stA V S.num) 29)).alloc (.cells (cellsOf [0, 0, 0]) 247)) X b6 8 = some (I (gt row 8)) := h8
  have h9' : zcp ((w.alloc (.cells (stA V S.num) 29)).alloc (.cells (cellsOf [0, 0, 0]) 247)) X b6 9 = some (I (gt row 9)) := h9
  have h10' : zcp ((w.alloc (.cells (stA V S.num) 29)).alloc (.cells (cellsOf [0, 0, 0]) 247)) X b6 10 = some (I (gt row 10)) := h10
  simp only [zab, zaa] at g2 g7
  have m1 : ¬ b5 < w.heap.size + 1 + 1 := by omega
  have m2 : ¬ b6 < w.heap.size + 1 + 1 := by omega
  have g2' : b5 < w.heap.size + 1 + 1 + X.objs.size := g2
  have m3 : ¬ b5 = w.heap.size + 1 + 1 + X.objs.size := by omega
  have m4 : ¬ b6 = w.heap.size + 1 + 1 + X.objs.size := by omega
  have HCK : Hid (ev0 S d = ⟨c.pw, c.tf, c.says, gt row 7 + gt row 8, gt row 7 + gt row 9⟩) := by rw [Hid, HE.out, hck.1, hck.2.1, hck.2.2]
  clear g3 g4 g5 h7 h8 h9 h10 hck
  refine hK _ _ ?_
  clear hK K
  go_wp2_with (go_at_call 281; refine (zq7 S V _ (HR.out.grow grI) HH.out HS.out).mono ?_; rintro e' w' ⟨s, l, rfl, hr, hl, ho, ny, rfl⟩; have HL := Lib.hid (And.intro hr (And.intro hl ho)); have hsn := hr.len; clear hr hl ho)
  have hsn' : s.n = l.length := by rw [hsn, List.length_map]
  have hln : l.length ≤ 2097152 := by
   have h1 : l.length = (zeg S).length := by rw [← HL.out.2.1, List.length_map]
   have h2 := zo9 S
   have h3 := HS.out.list 8 (by decide)
   omega
  clear hsn
  go_loopw [40] (fun i wr => ∃ k : Nat, k ≤ l.length ∧ i = .int .i64 k ∧ Grow (((((w.alloc (.cells (stA V S.num) 29)).alloc (.cells (cellsOf [0, 0, 0]) 247)).plus X).alloc (.cells (cellsOf [(evTo S d k).p, (evTo S d k).t, (evTo S d k).w]) 247)).alloc (.cells (cellsOf [(evTo S d k).mp, (evTo S d k).mt, 0]) 247)) wr ∧ Hid (RowsV wr s 8 (l.map StV.arr))) (fun i _ => l.length - (intOf i).toNat)
  case atStart =>
   refine ⟨0, by omega, rfl, ?_, HL.out.1⟩
   rw [show evTo S d 0 = _ from HCK.out]
   exact grI
  case round =>
   obtain ⟨k, hk, rfl, hG, HRV⟩ := hrel
   have HST := fun x h => Lib.hid (zw3 S d k x h)
   have HEV : Hid (k = l.length → evN S d = evTo S d k) := fun h => by
    have h1 : l.length = (zeg S).length := by rw [← HL.out.2.1, List.length_map]
    rw [evN, evTo, h, h1, List.take_length]
   generalize evTo S d k = e at *
   obtain ⟨Y, rfl⟩ := hG
   by_cases hlt : k < l.length
   · have hx : l[k]? = some l[k] := List.getElem?_eq_getElem hlt
     have HST := HST l[k].n (by rw [← HL.out.2.1, List.getElem?_map, hx]; rfl)
     generalize l[k] = x at *
     obtain ⟨q1, q2, q3⟩ := HRV.out.at (by decide) (i := k) (x := x.arr) (by rw [List.getElem?_map, hx]; rfl)
     have q0 := HL.out.2.2 s.b (Sl.owns_b (by omega))
     have q2' : s.o + k * 8 + 8 ≤ (zj7 (((((w.alloc (.cells (stA V S.num) 29)).alloc (.cells (cellsOf [0, 0, 0]) 247)).plus X).alloc (.cells (cellsOf [e.p, e.t, e.w]) 247)).alloc (.cells (cellsOf [e.mp, e.mt, 0]) 247)) Y s.b).size := q2
     have q3' : sub (zj7 (((((w.alloc (.cells (stA V S.num) 29)).alloc (.cells (cellsOf [0, 0, 0]) 247)).plus X).alloc (.cells (cellsOf [e.p, e.t, e.w]) 247)).alloc (.cells (cellsOf [e.mp, e.mt, 0]) 247)) Y s.b) (s.o + k * 8) 8 = x.arr := q3
     clear q2 q3
     simp only [zab, zaa] at q0 q1
     have q4 : ¬ s.b < w.heap.size + 1 + 1 + X.objs.size + 1 + 1 := by omega
     have hks : (k : Int) < s.n := by omega
     have hks' : k < s.n := by omega
     have HRC : Hid (∀ W, Grow w W → Calls Tryz.prog 282 #[.agg x.arr, .agg (stA V S.num), .int .i64 (d : Int)] W fun e w' => e = .returned (.bool (zgy S x.n d)) ∧ Grow W w') := fun W g => zqp S V W (HR.out.grow g) x d hd
     cases hre : zgy S x.n d with
     | false =>
       have HST2 : Hid (evTo S d (k + 1) = e) := by rw [Hid, HST.out, zhs, if_pos hre]
       rw [hre] at HRC
       go_wp2_with (go_at_call 282; refine (HRC.out _ grI).mono ?_; rintro e' w' ⟨rfl, nr, rfl⟩)
       go_roundw
       case rel => exact ⟨k + 1, by omega, by go_num, by rw [HST2.out]; exact grI, HRV.out.grow grI⟩
       case measure => simp [intOf]; omega
     | true =>
       have hre' : ¬ zgy S x.n d = false := by rw [hre]; decide
       rw [hre] at HRC
       have HRE := Lib.hid (And.intro hre hre')
       clear hre hre'
       by_cases h24 : x.ef.op = 24
       · have HST2 : Hid (evTo S d (k + 1) = { e with p := x.ef.n, t := x.ef.m }) := by
          rw [Hid, HST.out, zhs, if_neg HRE.out.2, if_pos (show x.n.op = 24 from h24)]; rfl
         have HG : Hid (RowsV ((((((w.alloc (.cells (stA V S.num) 29)).alloc (.cells (cellsOf [0, 0, 0]) 247)).plus X).alloc (.cells (cellsOf [x.ef.n, x.ef.m, e.w]) 247)).alloc (.cells (cellsOf [e.mp, e.mt, 0]) 247)).plus Y) s 8 (l.map StV.arr)) := HRV.out.off (b := (((w.alloc (.cells (stA V S.num) 29)).alloc (.cells (cellsOf [0, 0, 0]) 247)).plus X).heap.size) (by repeat (first | exact Off.base _ _ _ _ rfl | refine Off.plus ?_ _ | refine Off.alloc ?_ _)) (by simp only [zab, zaa]; omega)
         go_wp2_with (go_at_call 282; refine (HRC.out _ grI).mono ?_; rintro e' w' ⟨rfl, nr, rfl⟩)
         go_region
         all_goals go_wp2_with fail
         all_goals go_roundw
         all_goals first
          | (simp [intOf]; omega)
          | exact ⟨k + 1, by omega, by go_num, by rw [HST2.out]; exact grI, HG.out.grow grI⟩
       · by_cases h10 : x.ef.op = 10
         · have HST2 : Hid (evTo S d (k + 1) = { e with mp := wrap64 (e.mp + x.ef.n), mt := wrap64 (e.mt + x.ef.m) }) := by
            rw [Hid, HST.out, zhs, if_neg HRE.out.2, if_neg (show ¬ x.n.op = 24 from h24), if_pos (show x.n.op = 10 from h10)]; rfl
           have HG : Hid (RowsV ((((((w.alloc (.cells (stA V S.num) 29)).alloc (.cells (cellsOf [0, 0, 0]) 247)).plus X).alloc (.cells (cellsOf [e.p, e.t, e.w]) 247)).alloc (.cells (cellsOf [(wrap64 (e.mp + x.ef.n)), (wrap64 (e.mt + x.ef.m)), 0]) 247)).plus Y) s 8 (l.map StV.arr)) := HRV.out.off (b := ((((w.alloc (.cells (stA V S.num) 29)).alloc (.cells (cellsOf [0, 0, 0]) 247)).plus X).alloc (.cells (cellsOf [e.p, e.t, e.w]) 247)).heap.size) (by repeat (first | exact Off.base _ _ _ _ rfl | refine Off.plus ?_ _ | refine Off.alloc ?_ _)) (by simp only [zab, zaa]; omega)
           go_wp2_with (go_at_call 282; refine (HRC.out _ grI).mono ?_; rintro e' w' ⟨rfl, nr, rfl⟩)
           go_roundw
           case rel => exact ⟨k + 1, by omega, by go_num, by rw [HST2.out]; exact grI, HG.out.grow grI⟩
           case measure => simp [intOf]; omega
         · by_cases h23 : x.ef.op = 23
           · have HST2 : Hid (evTo S d (k + 1) = { e with w := bits .or .i64 e.w x.ef.n }) := by
              rw [Hid, HST.out, zhs, if_neg HRE.out.2, if_neg (show ¬ x.n.op = 24 from h24), if_neg (show ¬ x.n.op = 10 from h10), if_pos (show x.n.op = 23 from h23)]; rfl
             have HG : Hid (RowsV ((((((w.alloc (.cells (stA V S.num) 29)).alloc (.cells (cellsOf [0, 0, 0]) 247)).plus X).alloc (.cells (cellsOf [e.p, e.t, (bits .or .i64 e.w x.ef.n)]) 247)).alloc (.cells (cellsOf [e.mp, e.mt, 0]) 247)).plus Y) s 8 (l.map StV.arr)) := HRV.out.off (b := (((w.alloc (.cells (stA V S.num) 29)).alloc (.cells (cellsOf [0, 0, 0]) 247)).plus X).heap.size) (by repeat (first | exact Off.base _ _ _ _ rfl | refine Off.plus ?_ _ | refine Off.alloc ?_ _)) (by simp only [zab, zaa]; omega)
             go_wp2_with (go_at_call 282; refine (HRC.out _ grI).mono ?_; rintro e' w' ⟨rfl, nr, rfl⟩)
             go_roundw
             case rel => exact ⟨k + 1, by omega, by go_num, by rw [HST2.out]; exact grI, HG.out.grow grI⟩
             case measure => simp [intOf]; omega
           · by_cases h25 : x.ef.op = 25
             · have HST2 : Hid (evTo S d (k + 1) = { e with w := bits .andNot .i64 e.w x.ef.n }) := by
                rw [Hid, HST.out, zhs, if_neg HRE.out.2, if_neg (show ¬ x.n.op = 24 from h24), if_neg (show ¬ x.n.op = 10 from h10), if_neg (show ¬ x.n.op = 23 from h23), if_pos (show x.n.op = 25 from h25)]; rfl
               have HG : Hid (RowsV ((((((w.alloc (.cells (stA V S.num) 29)).alloc (.cells (cellsOf [0, 0, 0]) 247)).plus X).alloc (.cells (cellsOf [e.p, e.t, (bits .andNot .i64 e.w x.ef.n)]) 247)).alloc (.cells (cellsOf [e.mp, e.mt, 0]) 247)).plus Y) s 8 (l.map StV.arr)) := HRV.out.off (b := (((w.alloc (.cells (stA V S.num) 29)).alloc (.cells (cellsOf [0, 0, 0]) 247)).plus X).heap.size) (by repeat (first | exact Off.base _ _ _ _ rfl | refine Off.plus ?_ _ | refine Off.alloc ?_ _)) (by simp only [zab, zaa]; omega)
               go_wp2_with (go_at_call 282; refine (HRC.out _ grI).mono ?_; rintro e' w' ⟨rfl, nr, rfl⟩)
               go_roundw
               case rel => exact ⟨k + 1, by omega, by go_num, by rw [HST2.out]; exact grI, HG.out.grow grI⟩
               case measure => simp [intOf]; omega
             · have HST2 : Hid (evTo S d (k + 1) = e) := by
                rw [Hid, HST.out, zhs, if_neg HRE.out.2, if_neg (show ¬ x.n.op = 24 from h24), if_neg (show ¬ x.n.op = 10 from h10), if_neg (show ¬ x.n.op = 23 from h23), if_neg (show ¬ x.n.op = 25 from h25)]
               go_wp2_with (go_at_call 282; refine (HRC.out _ grI).mono ?_; rintro e' w' ⟨rfl, nr, rfl⟩)
               go_roundw
               case rel => exact ⟨k + 1, by omega, by go_num, by rw [HST2.out]; exact grI, HRV.out.grow grI⟩
               case measure => simp [intOf]; omega
   · have HEN : Hid (evN S d = e) := HEV.out (by omega)
     go_wp2_with fail
     refine bodyPost_ret (zm1 rfl _ _ _ rfl ?_) rfl ?_
     · go_simp
     · exact ⟨by (go_simp; rw [HF.out, HEN.out]; rfl), grI⟩
 have k1 : ∀ (nx : Ext) (c : CdV), c.pw = (zbp S d).pw ∧ c.tf = (zbp S d).tf ∧ c.says = (zbp S d).says → K { tmps := #[.agg (stA V S.num), .int .i64 (d : Int), .pointer (some ⟨w.heap.size, 0, none⟩), undef, .pointer (some ⟨w.heap.size + 1, 0, none⟩), .pointer (some ⟨w.heap.size + 1 + 1 + nx.objs.size, 0, none⟩), .pointer (some ⟨w.heap.size + 1 + 1 + nx.objs.size + 1, 0, none⟩), undef, undef, undef, undef, .agg (stA V S.num), .int .i64 (d : Int), .agg c.arr, .pointer (some ⟨w.heap.size, 0, none⟩), V.objs.val, .int .i64 (d : Int), .pointer (some ⟨V.objs.b, V.objs.o + d * 18, none⟩), .agg (cellsOf row), undef, undef, undef, undef, undef, undef, undef, undef, undef, undef, undef, undef, undef, undef, undef, undef, undef, undef, undef, undef, undef, undef, undef, undef, undef, undef, undef, undef, undef, undef, undef, undef, undef, undef, undef, undef, undef, undef, undef, undef, undef, undef, undef, undef, undef, undef, undef, undef, undef, undef, undef, undef, undef, undef, undef, undef, undef, undef, undef, undef, undef, undef, undef, undef, undef, undef, undef, undef, undef, undef, undef, undef, undef, undef, undef, undef, undef, undef, undef, undef, undef, undef, undef, undef, undef, undef, undef, undef, undef, undef, undef, undef, undef, undef], defers := [] } (((((w.alloc (.cells (stA V S.num) 29)).alloc (.cells (cellsOf [0, 0, 0]) 247)).plus nx).alloc (.cells c.arr 44)).alloc (.cells (cellsOf row) 77)) := fun nx c hck => by
  obtain ⟨X, hX⟩ : Grow ((w.alloc (.cells (stA V S.num) 29)).alloc (.cells (cellsOf [0, 0, 0]) 247)) (((((w.alloc (.cells (stA V S.num) 29)).alloc (.cells (cellsOf [0, 0, 0]) 247)).plus nx).alloc (.cells c.arr 44)).alloc (.cells (cellsOf row) 77)) := grI
  rw [hX]
  refine key X _ _ c hck ?_ ?_ ?_ ?_ ?_ ?_ ?_ ?_ ?_ <;> (try rw [← hX]) <;> clear hX <;> first | omega | (go_simp; done) | (go_simp; omega)
 have k2 : ∀ (nx : Ext) (c : CdV), c.pw = (zbp S d).pw ∧ c.tf = (zbp S d).tf ∧ c.says = (zbp S d).says → K { tmps := #[.agg (stA V S.num), .int .i64 (d : Int), .pointer (some ⟨w.heap.size, 0, none⟩), undef, .pointer (some ⟨w.heap.size + 1, 0, none⟩), .pointer (some ⟨w.heap.size + 1 + 1 + nx.objs.size + 1, 0, none⟩), .pointer (some ⟨w.heap.size + 1 + 1 + nx.objs.size, 0, none⟩), undef, undef, undef, undef, .agg (stA V S.num), .int .i64 (d : Int), .agg c.arr, .pointer (some ⟨w.heap.size, 0, none⟩), V.objs.val, .int .i64 (d : Int), .pointer (some ⟨V.objs.b, V.objs.o + d * 18, none⟩), .agg (cellsOf row), undef, undef, undef, undef, undef, undef, undef, undef, undef, undef, undef, undef, undef, undef, undef, undef, undef, undef, undef, undef, undef, undef, undef, undef, undef, undef, undef, undef, undef, undef, undef, undef, undef, undef, undef, undef, undef, undef, undef, undef, undef, undef, undef, undef, undef, undef, undef, undef, undef, undef, undef, undef, undef, undef, undef, undef, undef, undef, undef, undef, undef, undef, undef, undef, undef, undef, undef, undef, undef, undef, undef, undef, undef, undef, undef, undef, undef, undef, undef, undef, undef, undef, undef, undef, undef, undef, undef, undef, undef, undef, undef, undef, undef, undef], defers := [] } (((((w.alloc (.cells (stA V S.num) 29)).alloc (.cells (cellsOf [0, 0, 0]) 247)).plus nx).alloc (.cells (cellsOf row) 77)).alloc (.cells c.arr 44)) := fun nx c hck => by
  obtain ⟨X, hX⟩ : Grow ((w.alloc (.cells (stA V S.num) 29)).alloc (.cells (cellsOf [0, 0, 0]) 247)) (((((w.alloc (.cells (stA V S.num) 29)).alloc (.cells (cellsOf [0, 0, 0]) 247)).plus nx).alloc (.cells (cellsOf row) 77)).alloc (.cells c.arr 44)) := grI
  rw [hX]
  refine key X _ _ c hck ?_ ?_ ?_ ?_ ?_ ?_ ?_ ?_ ?_ <;> (try rw [← hX]) <;> clear hX <;> first | omega | (go_simp; done) | (go_simp; omega)
 have k3 : ∀ (nx : Ext) (c : CdV), c.pw = (zbp S d).pw ∧ c.tf = (zbp S d).tf ∧ c.says = (zbp S d).says → K { tmps := #[.agg (stA V S.num), .int .i64 (d : Int), .pointer (some ⟨w.heap.size, 0, none⟩), undef, .pointer (some ⟨w.heap.size + 1, 0, none⟩), .pointer (some ⟨w.heap.size + 1 + 1, 0, none⟩), .pointer (some ⟨w.heap.size + 1 + 1 + 1 + nx.objs.size, 0, none⟩), undef, undef, undef, undef, .agg (stA V S.num), .int .i64 (d : Int), .agg c.arr, .pointer (some ⟨w.heap.size, 0, none⟩), V.objs.val, .int .i64 (d : Int), .pointer (some ⟨V.objs.b, V.objs.o + d * 18, none⟩), .agg (cellsOf row), undef, undef, undef, undef, undef, undef, undef, undef, undef, undef, undef, undef, undef, undef, undef, undef, undef, undef, undef, undef, undef, undef, undef, undef, undef, undef, undef, undef, undef, undef, undef, undef, undef, undef, undef, undef, undef, undef, undef, undef, undef, undef, undef, undef, undef, undef, undef, undef, undef, undef, undef, undef, undef, undef, undef, undef, undef, undef, undef, undef, undef, undef, undef, undef, undef, undef, undef, undef, undef, undef, undef, undef, undef, undef, undef, undef, undef, undef, undef, undef, undef, undef, undef, undef, undef, undef, undef, undef, undef, undef, undef, undef, undef, undef], defers := [] } (((((w.alloc (.cells (stA V S.num) 29)).alloc (.cells (cellsOf [0, 0, 0]) 247)).alloc (.cells c.arr 44)).plus nx).alloc (.cells (cellsOf row) 77)) := fun nx c hck => by
  obtain ⟨X, hX⟩ : Grow ((w.alloc (.cells (stA V S.num) 29)).alloc (.cells (cellsOf [0, 0, 0]) 247)) (((((w.alloc (.cells (stA V S.num) 29)).alloc (.cells (cellsOf [0, 0, 0]) 247)).alloc (.cells c.arr 44)).plus nx).alloc (.cells (cellsOf row) 77)) := grI
  rw [hX]
  refine key X _ _ c hck ?_ ?_ ?_ ?_ ?_ ?_ ?_ ?_ ?_ <;> (try rw [← hX]) <;> clear hX <;> first | omega | (go_simp; done) | (go_simp; omega)
 have k4 : ∀ (nx : Ext) (c : CdV), c.pw = (zbp S d).pw ∧ c.tf = (zbp S d).tf ∧ c.says = (zbp S d).says → K { tmps := #[.agg (stA V S.num), .int .i64 (d : Int), .pointer (some ⟨w.heap.size, 0, none⟩), undef, .pointer (some ⟨w.heap.size + 1, 0, none⟩), .pointer (some ⟨w.heap.size + 1 + 1 + 1 + nx.objs.size, 0, none⟩), .pointer (some ⟨w.heap.size + 1 + 1, 0, none⟩), undef, undef, undef, undef, .agg (stA V S.num), .int .i64 (d : Int), .agg c.arr, .pointer (some ⟨w.heap.size, 0, none⟩), V.objs.val, .int .i64 (d : Int), .pointer (some ⟨V.objs.b, V.objs.o + d * 18, none⟩), .agg (cellsOf row), undef, undef, undef, undef, undef, undef, undef, undef, undef, undef, undef, undef, undef, undef, undef, undef, undef, undef, undef, undef, undef, undef, undef, undef, undef, undef, undef, undef, undef, undef, undef, undef, undef, undef, undef, undef, undef, undef, undef, undef, undef, undef, undef, undef, undef, undef, undef, undef, undef, undef, undef, undef, undef, undef, undef, undef, undef, undef, undef, undef, undef, undef, undef, undef, undef, undef, undef, undef, undef, undef, undef, undef, undef, undef, undef, undef, undef, undef, undef, undef, undef, undef, undef, undef, undef, undef, undef, undef, undef, undef, undef, undef, undef, undef], defers := [] } (((((w.alloc (.cells (stA V S.num) 29)).alloc (.cells (cellsOf [0, 0, 0]) 247)).alloc (.cells (cellsOf row) 77)).plus nx).alloc (.cells c.arr 44)) := fun nx c hck => by
  obtain ⟨X, hX⟩ : Grow ((w.alloc (.cells (stA V S.num) 29)).alloc (.cells (cellsOf [0, 0, 0]) 247)) (((((w.alloc (.cells (stA V S.num) 29)).alloc (.cells (cellsOf [0, 0, 0]) 247)).alloc (.cells (cellsOf row) 77)).plus nx).alloc (.cells c.arr 44)) := grI
  rw [hX]
  refine key X _ _ c hck ?_ ?_ ?_ ?_ ?_ ?_ ?_ ?_ ?_ <;> (try rw [← hX]) <;> clear hX <;> first | omega | (go_simp; done) | (go_simp; omega)
 have k5 : ∀ (nx : Ext) (c : CdV), c.pw = (zbp S d).pw ∧ c.tf = (zbp S d).tf ∧ c.says = (zbp S d).says → K { tmps := #[.agg (stA V S.num), .int .i64 (d : Int), .pointer (some ⟨w.heap.size, 0, none⟩), undef, .pointer (some ⟨w.heap.size + 1, 0, none⟩), .pointer (some ⟨w.heap.size + 1 + 1, 0, none⟩), .pointer (some ⟨w.heap.size + 1 + 1 + 1, 0, none⟩), undef, undef, undef, undef, .agg (stA V S.num), .int .i64 (d : Int), .agg c.arr, .pointer (some ⟨w.heap.size, 0, none⟩), V.objs.val, .int .i64 (d : Int), .pointer (some ⟨V.objs.b, V.objs.o + d * 18, none⟩), .agg (cellsOf row), undef, undef, undef, undef, undef, undef, undef, undef, undef, undef, undef, undef, undef, undef, undef, undef, undef, undef, undef, undef, undef, undef, undef, undef, undef, undef, undef, undef, undef, undef, undef, undef, undef, undef, undef, undef, undef, undef, undef, undef, undef, undef, undef, undef, undef, undef, undef, undef, undef, undef, undef, undef, undef, undef, undef, undef, undef, undef, undef, undef, undef, undef, undef, undef, undef, undef, undef, undef, undef, undef, undef, undef, undef, undef, undef, undef, undef, undef, undef, undef, undef, undef, undef, undef, undef, undef, undef, undef, undef, undef, undef, undef, undef, undef], defers := [] } (((((w.alloc (.cells (stA V S.num) 29)).alloc (.cells (cellsOf [0, 0, 0]) 247)).alloc (.cells c.arr 44)).alloc (.cells (cellsOf row) 77)).plus nx) := fun nx c hck => by
  obtain ⟨X, hX⟩ : Grow ((w.alloc (.cells (stA V S.num) 29)).alloc (.cells (cellsOf [0, 0, 0]) 247)) (((((w.alloc (.cells (stA V S.num) 29)).alloc (.cells (cellsOf [0, 0, 0]) 247)).alloc (.cells c.arr 44)).alloc (.cells (cellsOf row) 77)).plus nx) := grI
  rw [hX]
  refine key X _ _ c hck ?_ ?_ ?_ ?_ ?_ ?_ ?_ ?_ ?_ <;> (try rw [← hX]) <;> clear hX <;> first | omega | (go_simp; done) | (go_simp; omega)
 have k6 : ∀ (nx : Ext) (c : CdV), c.pw = (zbp S d).pw ∧ c.tf = (zbp S d).tf ∧ c.says = (zbp S d).says → K { tmps := #[.agg (stA V S.num), .int .i64 (d : Int), .pointer (some ⟨w.heap.size, 0, none⟩), undef, .pointer (some ⟨w.heap.size + 1, 0, none⟩), .pointer (some ⟨w.heap.size + 1 + 1 + 1, 0, none⟩), .pointer (some ⟨w.heap.size + 1 + 1, 0, none⟩), undef, undef, undef, undef, .agg (stA V S.num), .int .i64 (d : Int), .agg c.arr, .pointer (some ⟨w.heap.size, 0, none⟩), V.objs.val, .int .i64 (d : Int), .pointer (some ⟨V.objs.b, V.objs.o + d * 18, none⟩), .agg (cellsOf row), undef, undef, undef, undef, undef, undef, undef, undef, undef, undef, undef, undef, undef, undef, undef, undef, undef, undef, undef, undef, undef, undef, undef, undef, undef, undef, undef, undef, undef, undef, undef, undef, undef, undef, undef, undef, undef, undef, undef, undef, undef, undef, undef, undef, undef, undef, undef, undef, undef, undef, undef, undef, undef, undef, undef, undef, undef, undef, undef, undef, undef, undef, undef, undef, undef, undef, undef, undef, undef, undef, undef, undef, undef, undef, undef, undef, undef, undef, undef, undef, undef, undef, undef, undef, undef, undef, undef, undef, undef, undef, undef, undef, undef, undef], defers := [] } (((((w.alloc (.cells (stA V S.num) 29)).alloc (.cells (cellsOf [0, 0, 0]) 247)).alloc (.cells (cellsOf row) 77)).alloc (.cells c.arr 44)).plus nx) := fun nx c hck => by
  obtain ⟨X, hX⟩ : Grow ((w.alloc (.cells (stA V S.num) 29)).alloc (.cells (cellsOf [0, 0, 0]) 247)) (((((w.alloc (.cells (stA V S.num) 29)).alloc (.cells (cellsOf [0, 0, 0]) 247)).alloc (.cells (cellsOf row) 77)).alloc (.cells c.arr 44)).plus nx) := grI
  rw [hX]
  refine key X _ _ c hck ?_ ?_ ?_ ?_ ?_ ?_ ?_ ?_ ?_ <;> (try rw [← hX]) <;> clear hX <;> first | omega | (go_simp; done) | (go_simp; omega)
 clear key
 go_region_law (first | (refine zak (by rfl) ?_; go_simp; go_at_call 264; refine (zml S V _ (HR.out.grow grI) HH.out d hd).mono ?_; rintro e' w' ⟨c, rfl, hc, nx, rfl⟩; have hck := And.intro hc.pw (And.intro hc.tf hc.says); clear hc))
 all_goals first | exact k1 _ _ (by assumption) | exact k2 _ _ (by assumption) | exact k3 _ _ (by assumption) | exact k4 _ _ (by assumption) | exact k5 _ _ (by assumption) | exact k6 _ _ (by assumption)
end Go.Proofs.YtgobdndjemicjaaGreatDoor
