/- The walks of trigger's kind, has and Of. -/
import Derived.Test.YtgobdndjemicjaaGreatDoorMOc
import Derived.Test.YtgobdndjemicjaaGreatDoorMRunO
import Derived.Test.YtgobdndjemicjaaGreatDoorMSrtI
import Derived.Test.YtgobdndjemicjaaGreatDoorMEmNew
namespace Go.Proofs.YtgobdndjemicjaaGreatDoor
open Go Go.RowKit Go.Shelf
structure CdRel (P : World → Nat → CdV → Prop) : Prop where
 grow : ∀ {w w' : World} {n : Nat} {c : CdV}, P w n c → Grow w w' → P w' n c
 off : ∀ {b : Nat} {w w' : World} {n : Nat} {c : CdV}, P w n c → Off b w w' → b < n → P w' n c
 low : ∀ {w : World} {m n : Nat} {c : CdV}, P w n c → m ≤ n → P w m c
theorem zl8 (d : CardN) : CdRel (fun w n c => CardOk w n c d) := ⟨fun h g => h.grow g, fun h o hb => h.off o hb, fun h hm => h.low hm⟩
theorem z1k (d : CardF) : CdRel (fun w n c => CardIs w n c d) := ⟨fun h g => h.grow g, fun h o hb => h.off o hb, fun h hm => h.low hm⟩
def zeroCd : CdV := ⟨0, 0, false, 0, 0, 0, 0, 0, 0, 0, 0, 0, .nil⟩
set_option maxRecDepth 100000 in
set_option maxHeartbeats 2000000 in
theorem zzr (S : St) (V : SV) (w : World) (R : RepSt w V S) (id : Int) (h : ¬ (0 ≤ id ∧ id < S.objs.length)) :
 Calls Tryz.prog 37 #[.agg (stA V S.num), .int .i64 id] w fun e w' => e = .returned (.tuple #[.agg zeroCd.arr, .bool false]) ∧ Grow w w' := by
 have hN := R.objs.len
 clear R
 unfold zeroCd
 by_cases h0 : id < 0
 · clear h
   go_enter Tryz.func37, Tryz.ntmps37
   go_wp2_with fail
   refine bodyPost_ret (zai rfl _ _ _ rfl ?_) rfl ?_
   · go_simp
   · exact ⟨by first | rfl | (go_simp; done) | (go_simp; rfl), grI⟩
 · have h1 : (S.objs.length : Int) ≤ id := by omega
   clear h
   go_enter Tryz.func37, Tryz.ntmps37
   go_wp2_with fail
   refine bodyPost_ret (zai rfl _ _ _ rfl ?_) rfl ?_
   · go_simp
   · exact ⟨by first | rfl | (go_simp; done) | (go_simp; rfl), grI⟩
set_option maxRecDepth 100000 in
set_option maxHeartbeats 4000000 in
theorem zjz (S : St) (V : SV) (w : World) (R : RepSt w V S) (a : Nat) (ha : a < S.objs.length) {P : World → Nat → CdV → Prop} (hP : CdRel P) (er : Int)
 (HC : ∀ W, Calls Tryz.prog 94 #[.int .i64 (gt (rowAt S.objs a) 0)] W fun e w' => ∃ c : CdV, e = .returned (.tuple #[.agg c.arr, errV er]) ∧ P w' W.heap.size c ∧ Grow W w') :
 Calls Tryz.prog 37 #[.agg (stA V S.num), .int .i64 (a : Int)] w fun e w' => ∃ c : CdV, e = .returned (.tuple #[.agg c.arr, .bool (er == 0)]) ∧ P w' w.heap.size c ∧ Grow w w' := by
 have hN := R.objs.len
 have hoc := R.objs.cell a 0 ha (by omega)
 have hob := (zaz hoc).1
 rw [Nat.add_zero] at hoc
 have ha1 : (a : Int) < S.objs.length := by omega
 have HH := Lib.hid HC
 have HP := Lib.hid hP
 clear R HC hP
 generalize gt (rowAt S.objs a) 0 = x at *
 by_cases he : er = 0
 · subst he
   rw [zbf] at HH
   go_enter Tryz.func37, Tryz.ntmps37
   go_wp2_with (go_at_call 94; refine (HH.out _).mono ?_; rintro e' w' ⟨cc, rfl, hC, n1, rfl⟩; have HC := Lib.hid hC; clear hC)
   go_region
   go_wp2_with fail
   refine bodyPost_ret (zai rfl _ _ _ rfl ?_) rfl ?_
   · go_simp
   · refine ⟨cc, by first | rfl | (go_simp; done) | (go_simp; rfl), ?_, grI⟩
     have hC := HC.out
     (try simp only [zad] at hC); (try simp only [zac] at hC)
     exact HP.out.grow (HP.out.low (HP.out.off (b := w.heap.size + 1) (w' := ((w.alloc (.cells (stA V S.num) 29)).alloc (.cells cc.arr 44)).plus n1) hC (by repeat (first | exact Off.base _ _ _ _ (zaa _ _).symm | refine Off.plus ?_ _ | refine Off.alloc ?_ _)) (by simp only [zaa]; omega)) (by simp only [zaa]; omega)) grI
 · rw [zat he] at HH
   have hb : (er == 0) = false := by simpa using he
   rw [hb]
   clear he hb
   go_enter Tryz.func37, Tryz.ntmps37
   go_wp2_with (go_at_call 94; refine (HH.out _).mono ?_; rintro e' w' ⟨cc, rfl, hC, n1, rfl⟩; have HC := Lib.hid hC; clear hC)
   go_region
   go_wp2_with fail
   refine bodyPost_ret (zai rfl _ _ _ rfl ?_) rfl ?_
   · go_simp
   · refine ⟨cc, by first | rfl | (go_simp; done) | (go_simp; rfl), ?_, grI⟩
     have hC := HC.out
     (try simp only [zad] at hC); (try simp only [zac] at hC)
     exact HP.out.grow (HP.out.low (HP.out.off (b := w.heap.size + 1) (w' := ((w.alloc (.cells (stA V S.num) 29)).alloc (.cells cc.arr 44)).plus n1) hC (by repeat (first | exact Off.base _ _ _ _ (zaa _ _).symm | refine Off.plus ?_ _ | refine Off.alloc ?_ _)) (by simp only [zaa]; omega)) (by simp only [zaa]; omega)) grI
def za9 (S : St) (id n : Int) : Bool :=
 decide (0 ≤ id ∧ id < S.objs.length) && (decide (0 ≤ gt (rowAt S.objs id.toNat) 0 ∧ gt (rowAt S.objs id.toNat) 0 < 120) && decide (0 ≤ n ∧ n < (cardN (gt (rowAt S.objs id.toNat) 0).toNat).abs.length))
theorem CardOk.absLen {w : World} {n : Nat} {c : CdV} {d : CardN} (h : CardOk w n c d) : c.abs.n = d.abs.length := by
 obtain ⟨l, h1, _, h3⟩ := h.abs
 have := h1.len
 rw [List.length_map] at this
 rw [this]
 exact h3.get.1
set_option maxRecDepth 100000 in
set_option maxHeartbeats 4000000 in
theorem zii (S : St) (V : SV) (w : World) (R : RepSt w V S) (id n : Int) :
 Calls Tryz.prog 36 #[.agg (stA V S.num), .int .i64 id, .int .i64 n] w fun e w' => e = .returned (.bool (za9 S id n)) ∧ Grow w w' := by
 by_cases hi : 0 ≤ id ∧ id < S.objs.length
 · obtain ⟨a, rfl⟩ := Int.eq_ofNat_of_zero_le hi.1
   have ha : a < S.objs.length := by omega
   by_cases hc : 0 ≤ gt (rowAt S.objs a) 0 ∧ gt (rowAt S.objs a) 0 < 120
   · have hx : gt (rowAt S.objs a) 0 = ((gt (rowAt S.objs a) 0).toNat : Int) := by omega
     have HK := Lib.hid (fun W (g : Grow w W) => zjz S V W (R.grow g) a ha (zl8 (cardN (gt (rowAt S.objs a) 0).toNat)) 0 (fun W => by
      rw [hx, zbf]
      exact (zjt W _ (by omega)).mono fun _ _ ⟨c, h1, h2, h3⟩ => ⟨c, h1, h2, h3⟩))
     have e : za9 S a n = decide (0 ≤ n ∧ n < (cardN (gt (rowAt S.objs a) 0).toNat).abs.length) := by
      unfold za9
      rw [Int.toNat_natCast, decide_eq_true hi, decide_eq_true hc]; rfl
     rw [e]
     generalize cardN (gt (rowAt S.objs a) 0).toNat = d at *
     clear R hi hc hx e
     by_cases h0 : 0 ≤ n
     · by_cases h1 : n < d.abs.length
       · rw [decide_eq_true ⟨h0, h1⟩]
         go_enter Tryz.func36, Tryz.ntmps36
         go_wp2_with (go_at_call 37; refine (HK.out _ grI).mono ?_; rintro e' w' ⟨c, rfl, hC, nx, rfl⟩; have hl := hC.absLen; clear hC)
         go_ret
         exact ⟨rfl, grI⟩
       · rw [decide_eq_false (fun h => h1 h.2)]
         have h1' : (n < (d.abs.length : Int)) = False := by simpa using h1
         clear h1
         go_enter Tryz.func36, Tryz.ntmps36
         go_wp2_with (go_at_call 37; refine (HK.out _ grI).mono ?_; rintro e' w' ⟨c, rfl, hC, nx, rfl⟩; have hl := hC.absLen; clear hC)
         go_ret
         exact ⟨rfl, grI⟩
     · rw [decide_eq_false (fun h => h0 h.1)]
       have h0' : (0 ≤ n) = False := by simpa using h0
       clear h0
       go_enter Tryz.func36, Tryz.ntmps36
       go_wp2_with (go_at_call 37; refine (HK.out _ grI).mono ?_; rintro e' w' ⟨c, rfl, hC, nx, rfl⟩; clear hC)
       go_ret
       exact ⟨rfl, grI⟩
   · have HK := Lib.hid (fun W (g : Grow w W) => zjz S V W (R.grow g) a ha (zl8 ⟨0, 0, 0, 0, []⟩) 4 (fun W => znn W _ (by omega)))
     have e : za9 S a n = false := by
      unfold za9
      rw [Int.toNat_natCast, decide_eq_true hi, decide_eq_false hc]; rfl
     rw [e]
     clear R hi hc e
     go_enter Tryz.func36, Tryz.ntmps36
     go_wp2_with (go_at_call 37; refine (HK.out _ grI).mono ?_; rintro e' w' ⟨c, rfl, hC, nx, rfl⟩; clear hC)
     go_ret
     exact ⟨rfl, grI⟩
 · have HK := Lib.hid (fun W (g : Grow w W) => zzr S V W (R.grow g) id hi)
   have e : za9 S id n = false := by unfold za9; rw [decide_eq_false hi]; rfl
   rw [e]
   clear R hi e
   go_enter Tryz.func36, Tryz.ntmps36
   go_wp2_with (go_at_call 37; refine (HK.out _ grI).mono ?_; rintro e' w' ⟨rfl, nx, rfl⟩)
   go_ret
   exact ⟨rfl, grI⟩
end Go.Proofs.YtgobdndjemicjaaGreatDoor
namespace Go.Proofs.YtgobdndjemicjaaGreatDoor
open Go Go.RowKit Go.Shelf
theorem zjm {fn : Func} {p q : Tmp} (h : fn.results = #[.cell p 38, .tmp q]) (tmps : Array Value) (w : World) (b : Nat) (hp : tmps.getD p undef = .pointer (some ⟨b, 0, none⟩)) (h1 : (w.blk b).size = 14) :
 (results fn tmps).run Tryz.prog w = .ok (.tuple #[.agg (sub (w.blk b) 0 14), tmps.getD q undef]) w := by
 unfold results
 rw [h]
 have e1 := zf9 w b h1
 have hp' : tmps[p]?.getD undef = .pointer (some ⟨b, 0, none⟩) := by simpa using hp
 simp [asAddr, hp', e1]
def z6y : AbF := ⟨0, noCost, false, 0, ⟨0, 0, 0, 0, []⟩⟩
theorem AbsIs.get {w : World} {n : Nat} {l : List AbV} {m : List AbF} (h : AbsIs w n l m) : l.length = m.length ∧ ∀ (i : Nat) (a : AbV), l[i]? = some a → AbIs w n a (m.getD i z6y) := by
 induction h with
 | nil => exact ⟨rfl, fun i a h => by simp at h⟩
 | cons h _ ih =>
   refine ⟨by rw [List.length_cons, List.length_cons, ih.1], fun i a h1 => ?_⟩
   cases i with
   | zero => simp at h1; subst h1; exact h
   | succ i => exact ih.2 i a (by simpa using h1)
set_option maxRecDepth 100000 in
set_option maxHeartbeats 4000000 in
theorem z9q (S : St) (V : SV) (w : World) (R : RepSt w V S) (a n : Nat) (ha : a < S.objs.length) (hk : gt (rowAt S.objs a) 13 = 2) (hn : gt (rowAt S.objs a) 14 = n) (hh : za9 S a n = true) :
 Calls Tryz.prog 10 #[.agg (stA V S.num), .int .i64 (a : Int)] w fun e w' => ∃ ab : AbV, e = .returned (.tuple #[.agg ab.arr, .bool true]) ∧ AbIs w' w.heap.size ab ((cardF (gt (rowAt S.objs a) 0).toNat).abs.getD n z6y) ∧ Grow w w' := by
 have hh2 := hh
 unfold za9 at hh2
 simp only [Bool.and_eq_true, decide_eq_true_eq] at hh2
 obtain ⟨_, h2, h3, h4⟩ := hh2
 rw [Int.toNat_natCast] at h2 h4
 have hx : gt (rowAt S.objs a) 0 = ((gt (rowAt S.objs a) 0).toNat : Int) := by omega
 have HK := Lib.hid (fun W (r : RepSt W V S) => zjz S V W r a ha (z1k (cardF (gt (rowAt S.objs a) 0).toNat)) 0 (fun W => by
  rw [hx, zbf]
  exact (znm W _ (by omega)).mono fun _ _ ⟨c, h1, h2, h3⟩ => ⟨c, h1, h2, h3⟩))
 have HH := Lib.hid (fun W (r : RepSt W V S) => by have := zii S V W r a n; rw [hh] at this; exact this)
 have hlen : n < (cardF (gt (rowAt S.objs a) 0).toNat).abs.length := by
  have := zj2 (gt (rowAt S.objs a) 0).toNat (by omega)
  unfold zrd at this
  simp only [Bool.and_eq_true, beq_iff_eq, decide_eq_true_eq] at this
  have := this.1.2
  omega
 have hN := R.objs.len
 have c13 := R.objs.cell a 13 ha (by omega)
 have c14 := R.objs.cell a 14 ha (by omega)
 rw [hk] at c13
 rw [hn] at c14
 have hob := (zaz c13).1
 have ha1 : (a : Int) < S.objs.length := by omega
 have HR := Lib.hid R
 generalize cardF (gt (rowAt S.objs a) 0).toNat = d at *
 clear R h2 h4 hx hk hn hh h3
 change w.cell? _ = some (Value.int .i64 2) at c13
 change w.cell? _ = some (Value.int .i64 (n : Int)) at c14
 go_enter Tryz.func10, Tryz.ntmps10
 go_wp2_with (go_at_call 36; refine (HH.out _ (HR.out.grow grI)).mono ?_; rintro e' w' ⟨rfl, nH, rfl⟩)
 refine (HK.out _ (HR.out.grow grI)).mono ?_
 rintro e' w' ⟨c, rfl, hC, nK, rfl⟩
 (try simp only [zad] at hC); (try simp only [zac] at hC)
 obtain ⟨l, r1, r0, r2⟩ := hC.abs
 obtain ⟨g1, g2⟩ := r2.get
 have hnl : n < l.length := by omega
 have hln : l[n]? = some l[n] := List.getElem?_eq_getElem hnl
 have hab := g2 n _ hln
 generalize l[n] = ab at *
 have hcn : c.abs.n = l.length := by rw [r1.len, List.length_map]
 obtain ⟨q1, q2, q3⟩ := r1.at (by decide) (i := n) (x := ab.arr) (by rw [List.getElem?_map, hln]; rfl)
 have hnl1 : (n : Int) < l.length := by omega
 have q0 : w.heap.size + 1 + 1 ≤ c.abs.b := by
  rcases r0 with h | h
  · rw [h] at hnl; cases hnl
  · simp only [zab, zaa] at h; omega
 rw [zab] at q1
 rw [zgn, if_neg (by simp only [zaa]; omega)] at q2 q3
 simp only [zaa] at q1
 have HAB := Lib.hid hab
 clear hC r1 r2 g1 g2 hab hln r0
 go_wp2_with fail
 refine bodyPost_ret (zjm rfl _ _ _ rfl ?_) rfl ?_
 · go_simp
 · refine ⟨ab, by first | rfl | (go_simp; done) | (go_simp; rfl), ?_, grI⟩
   have hA := HAB.out
   exact ((hA.off (b := w.heap.size + 1) (w' := ((w.alloc (.cells (stA V S.num) 29)).alloc (.cells ab.arr 38)).plus (nH.and nK)) (by repeat (first | exact Off.base _ _ _ _ (zaa _ _).symm | refine Off.plus ?_ _ | refine Off.alloc ?_ _)) (by simp only [zab, zaa]; omega)).less (by simp only [zab, zaa]; omega)).grow grI
@[go_sem] theorem ya6 (w : World) : (za2 38 #[]).run Tryz.prog w = .ok (.value (.agg (AbV.arr ⟨0, 0, 0, 0, 0, 0, 0, false, 0, ⟨0, 0, 0, 0, .nil⟩⟩))) w := by kernel_rfl
end Go.Proofs.YtgobdndjemicjaaGreatDoor
namespace Go.Proofs.YtgobdndjemicjaaGreatDoor
open Go Go.RowKit Go.Shelf
def Em.abil (E : Em) (id n p : Int) : Em :=
 if E.err ≠ 0 then E
 else if za9 E.now id n = false then { E with err := 4 }
 else if ¬ (p = 0 ∨ p = 1) then { E with err := 1 }
 else (((E.make (gt (rowAt E.now.objs id.toNat) 0) p 2).setObj (E.made (gt (rowAt E.now.objs id.toNat) 0) p 2) 14 n).setObj (E.made (gt (rowAt E.now.objs id.toNat) 0) p 2) 15 (wrap64 (id + 1))).put (E.made (gt (rowAt E.now.objs id.toNat) 0) p 2) 9
def Em.abilR (E : Em) (id n p : Int) : Int := if (E.abil id n p).err ≠ 0 then 0 else E.made (gt (rowAt E.now.objs id.toNat) 0) p 2
def Em.abils (E : Em) (l : LR) : Em := l.foldl (fun E r => E.abil (gt r 0) (gt r 1) (gt r 2)) E
def Em.abilsR (E : Em) (l : LR) : Int := if (E.abils l).err ≠ 0 then 0 else l.length
def Em.flush (E : Em) : Em := E.taken.abils (if E.err ≠ 0 then [] else stbS (ltP (E.now.num 19)) E.pend)
def Em.gas (E : Em) : Nat := if E.err ≠ 0 then 1 else (E.now.list 8).length + 2
def Em.ran (E : Em) : Em := (zvq E.gas E (E.state.objs.length + 1) 0).1
def Em.settle (E : Em) : Em := if E.ran.state.num 24 ≠ 0 then E.ran.taken else E.ran.flush
def znf (S : St) : LR := (S.list 8).flatMap fun id => if gt (rowAt S.objs id.toNat) 2 = S.num 19 then (usesN (cardN (gt (rowAt S.objs id.toNat) 0).toNat).abs 4).map fun i => [id, i, S.num 19] else []
def Em.upkeep (E : Em) : Em := E.abils (if E.err ≠ 0 then [] else znf E.now)
theorem zfd {E : Em} (h : E.err ≠ 0) (a b c : Int) : E.abil a b c = E := by unfold Em.abil; rw [if_pos h]
theorem ze3 {E : Em} (h : E.err ≠ 0) : ∀ l, E.abils l = E
 | [] => rfl
 | r :: l => by show (E.abil _ _ _).abils l = E; rw [zfd h]; exact ze3 h l
theorem zsm (E : Em) (l : LR) (k : Nat) (h : k < l.length) : E.abils (l.take (k + 1)) = (E.abils (l.take k)).abil (gt (rowAt l k) 0) (gt (rowAt l k) 1) (gt (rowAt l k) 2) := by
 have : l.take (k + 1) = l.take k ++ [rowAt l k] := by
  rw [List.take_succ_eq_append_getElem h]
  simp [rowAt, h]
 unfold Em.abils
 rw [this, List.foldl_append]; rfl
theorem zmf {S : St} {id n : Int} (h : za9 S id n = true) : (0 ≤ id ∧ id < S.objs.length) ∧ (0 ≤ gt (rowAt S.objs id.toNat) 0 ∧ gt (rowAt S.objs id.toNat) 0 < 120) ∧ 0 ≤ n ∧ n < (cardN (gt (rowAt S.objs id.toNat) 0).toNat).abs.length := by
 unfold za9 at h
 simp only [Bool.and_eq_true, decide_eq_true_eq] at h
 exact ⟨h.1, h.2.1, h.2.2⟩
theorem z1a : ∀ c, c < 120 → (cardN c).abs.length ≤ 2 := by decide
theorem zho (E : Em) (e : List Int) : (E.do1 e).pend = E.pend := by
 unfold Em.do1
 split
 · rfl
 · split
   · rfl
   · split <;> rfl
theorem zw5 (E : Em) (k : Int) : (E.fail k).pend = E.pend := by unfold Em.fail; split <;> rfl
theorem z4a (E : Em) (e : List Int) (u v : Int) : (E.set e u v).pend = E.pend := by
 unfold Em.set
 split
 · exact zw5 _ _
 · exact zho _ _
theorem zd4 (E : Em) (a f v : Int) : (E.setObj a f v).pend = E.pend := by
 unfold Em.setObj
 split
 · rfl
 · split
   · exact zho _ _
   · exact z4a _ _ _ _
theorem zxt (E : Em) (a b c : Int) : (E.make a b c).pend = E.pend := by
 unfold Em.make
 split
 · rfl
 · exact zho _ _
theorem zrm : ∀ (l : List (List Int)) (E : Em), (E.dos l).pend = E.pend
 | [], _ => rfl
 | e :: l, E => (zrm l (E.do1 e)).trans (zho E e)
theorem zzb (E : Em) (a p : Int) : (E.show a p).pend = E.pend := by
 unfold Em.show
 split
 · rfl
 · exact zrm _ _
theorem zx9 (E : Em) (a : Int) : (E.rest a).pend = E.pend := by
 have key : ∀ (l : List Int) (E : Em), (l.foldl (fun E f => E.setObj a f 0) E).pend = E.pend := by
  intro l
  induction l with
  | nil => intro E; rfl
  | cons x l ih => intro E; exact (ih _).trans (zd4 _ _ _ _)
 exact key restL E
theorem zjw {p : Prop} [Decidable p] {E F : Em} (h : F.pend = E.pend) : (if p then F else E).pend = E.pend := by split <;> simp [h]
theorem zx3 (E : Em) (a b c d : Int) : (E.put2 a b c d).pend = E.pend := by
 unfold Em.put2
 simp only
 rw [zzb, zjw (zd4 _ _ _ _), zjw (zd4 _ _ _ _), zjw (zd4 _ _ _ _), zjw (zx9 _ _)]
theorem zmq {E : Em} (he : E.err = 0) {c o k : Int} (h : (E.make c o k).err = 0) : E.now.objs.length < 400 ∧ (E.make c o k).now = { E.now with objs := E.now.objs ++ [[c, o, o, 10, 0, 0, 0, 0, 0, 0, 0, 0, 0, k, 0, 0, 0, 3]], list := upd E.now.list 10 (E.now.list 10 ++ [(E.now.objs.length : Int)]) } ∧ E.made c o k = E.now.objs.length := by
 have e1 : E.make c o k = E.do1 [0, c, o, k, 0, 0] := by unfold Em.make; rw [if_neg (by rw [he]; simp)]
 have e2 : E.made c o k = E.now.objs.length := by
  unfold Em.made
  rw [if_neg (by rw [he]; simp), if_neg (by rw [← e1, h]; simp)]
 rw [e1] at h ⊢
 rw [e2]
 unfold Em.do1 at h ⊢
 rw [if_neg (by rw [he]; simp)] at h ⊢
 cases hd : zd5 E.now [0, c, o, k, 0, 0] with
 | error n => rw [hd] at h; exact absurd h (zgq hd)
 | ok S =>
   rw [hd] at h
   have h : (if E.evs.length < 65536 then _ else _ : Em).err = 0 := h
   obtain ⟨h1, rfl⟩ := zkc hd
   by_cases hl : E.evs.length < 65536
   · refine ⟨h1, ?_, rfl⟩
     show (if E.evs.length < 65536 then _ else _ : Em).now = _
     rw [if_pos hl]
   · rw [if_neg hl] at h
     exact absurd h (by show ¬ (5 : Int) = 0; decide)
theorem zgh {E : Em} (he : E.err = 0) {a f : Nat} {v : Int} (h : (E.setObj a f v).err = 0) : (E.setObj a f v).now = E.now.setObj a f v := by
 have key : ∀ e u, (∀ S, zd5 E.now e = .ok S → S = u) → (E.do1 e).err = 0 → (E.do1 e).now = u := by
  intro e u hu h
  unfold Em.do1 at h ⊢
  rw [if_neg (by rw [he]; simp)] at h ⊢
  cases hd : zd5 E.now e with
  | error n => rw [hd] at h; exact absurd h (zgq hd)
  | ok S =>
    rw [hd] at h
    have h : (if E.evs.length < 65536 then _ else _ : Em).err = 0 := h
    show (if E.evs.length < 65536 then _ else _ : Em).now = _
    split
    · exact hu S hd
    · exact hu S hd
 unfold Em.setObj at h ⊢
 rw [if_neg (by rw [he]; simp)] at h ⊢
 split at h
 · rename_i hc
   rw [if_pos hc]
   refine key _ _ (fun S hS => ?_) h
   rcases hc with hc | hc
   · exact absurd (zdi hS) hc
   · exact absurd (zgr hS).1 (by omega)
 · rename_i hc
   rw [if_neg hc]
   unfold Em.set at h ⊢
   split at h
   · rename_i hv
     rw [if_pos hv, zma]
     unfold St.setObj
     rw [← hv, Int.toNat_natCast, Int.toNat_natCast, z6r, zo5]
   · rename_i hv
     rw [if_neg hv]
     refine key _ _ (fun S hS => ?_) h
     have := (zgr hS).2
     rw [Int.toNat_natCast, Int.toNat_natCast] at this
     exact this
theorem zx4 (E : Em) (id : Int) (h9 : zd9 (rowAt E.now.objs id.toNat) 9 = 9) : (E.put id 9).pend = E.pend := by
 unfold Em.put
 split
 · rfl
 split
 · rfl
 split
 · rfl
 · simp only [h9]
   unfold Em.put3
   have hb : ((E.do1 (E.now.putEv id 9)).put2 id (gt (rowAt E.now.objs id.toNat) 3) 9 (gt (rowAt E.now.objs id.toNat) 1)).pend = E.pend := by rw [zx3, zho]
   split
   · exact hb
   rw [if_neg (by omega), if_neg (by omega)]
   exact hb
structure AbilTo (m : Nat) (d : List Int) (E E' : Em) : Prop where
 rg : Rg m d E'
 many : E'.now.objs.length = E.now.objs.length + 1
 num : E'.now.num = E.now.num
 stack : (E'.now.list 9).length = (E.now.list 9).length + 1
 pend : E'.pend = E.pend
 objs : ∀ i, i < E.now.objs.length → rowAt E'.now.objs i = rowAt E.now.objs i
 last : gt (rowAt E'.now.objs E.now.objs.length) 13 = 2
 field : E'.now.list 8 = E.now.list 8
theorem zdx {S : St} {id n : Int} (hh : za9 S id n = true) : 0 ≤ n ∧ n ≤ 1 ∧ 0 ≤ id ∧ id < S.objs.length := by
 obtain ⟨h1, h2, h3, h4⟩ := zmf hh
 have := z1a (gt (rowAt S.objs id.toNat) 0).toNat (by omega)
 omega
theorem Rg.abil {m : Nat} {d : List Int} {E : Em} (h : Rg m d E) (id n p : Int) : (E.abil id n p).err ≠ 0 ∨ AbilTo m d E (E.abil id n p) := by
 unfold Em.abil
 rw [if_neg (by rw [h.err]; simp)]
 split
 · exact Or.inl (by show (4 : Int) ≠ 0; decide)
 rename_i hh
 have hh : za9 E.now id n = true := by simpa using hh
 split
 · exact Or.inl (by show (1 : Int) ≠ 0; decide)
 rename_i hp
 obtain ⟨n0, n1, i0, i1⟩ := zdx hh
 generalize gt (rowAt E.now.objs id.toNat) 0 = c
 have O1 := h.make c p 2
 by_cases e1 : (E.make c p 2).err = 0
 · have R1 := O1.err e1
   obtain ⟨hl, hnow, hmade⟩ := zmq h.err e1
   have hp1 := zxt E c p 2
   rw [hmade]
   generalize E.make c p 2 = E1 at *
   have hw : wrap64 (id + 1) = id + 1 := by have := h.right.many; unfold wrap64; omega
   rw [hw]
   have hlen1 : E1.now.objs.length = E.now.objs.length + 1 := by rw [hnow]; simp
   have hrow1 : rowAt E1.now.objs E.now.objs.length = [c, p, p, 10, 0, 0, 0, 0, 0, 0, 0, 0, 0, 2, 0, 0, 0, 3] := by
    rw [hnow]; show rowAt (E.now.objs ++ [_]) _ = _; rw [zeu, if_neg (by omega), if_pos rfl]
   have O2 := R1.setObj (E.now.objs.length : Int) ((14 : Nat) : Int) n (fun a g ha hg hal => by
    obtain rfl : E.now.objs.length = a := by omega
    obtain rfl : (14 : Nat) = g := by omega
    exact R1.right.setObj R1.wid _ 14 n hal (by omega) (by omega) (by omega) (by simp [zaj, gt, inB]; omega) (by omega) (by
     rw [zgs _ (R1.wid _ hal) 14 n (Or.inl rfl)]; exact R1.right.formed _ hal))
   have e14 : ((14 : Nat) : Int) = 14 := rfl
   have e15 : ((15 : Nat) : Int) = 15 := rfl
   by_cases e2 : (E1.setObj (E.now.objs.length : Int) ((14 : Nat) : Int) n).err = 0
   · have R2 := O2.err e2
     have hnow2 := zgh R1.err e2
     have hp2 := zd4 E1 (E.now.objs.length : Int) ((14 : Nat) : Int) n
     rw [e14] at e2 R2 hnow2 hp2
     generalize E1.setObj (E.now.objs.length : Int) 14 n = E2 at *
     have hlen2 : E2.now.objs.length = E.now.objs.length + 1 := by rw [hnow2, zb6, hlen1]
     have O3 := R2.setObj (E.now.objs.length : Int) ((15 : Nat) : Int) (id + 1) (fun a g ha hg hal => by
      obtain rfl : E.now.objs.length = a := by omega
      obtain rfl : (15 : Nat) = g := by omega
      exact R2.right.setObj R2.wid _ 15 (id + 1) hal (by omega) (by omega) (by omega) (by simp [zaj, gt, inB]; omega) (by omega) (by
       rw [zgs _ (R2.wid _ hal) 15 (id + 1) (Or.inr rfl)]; exact R2.right.formed _ hal))
     by_cases e3 : (E2.setObj (E.now.objs.length : Int) ((15 : Nat) : Int) (id + 1)).err = 0
     · have R3 := O3.err e3
       have hnow3 := zgh R2.err e3
       have hp3 := zd4 E2 (E.now.objs.length : Int) ((15 : Nat) : Int) (id + 1)
       rw [e15] at e3 R3 hnow3 hp3
       generalize E2.setObj (E.now.objs.length : Int) 15 (id + 1) = E3 at *
       have hlen3 : E3.now.objs.length = E.now.objs.length + 1 := by rw [hnow3, zb6, hlen2]
       have ha3 : E.now.objs.length < E3.now.objs.length := by omega
       have hrow3 : rowAt E3.now.objs E.now.objs.length = [c, p, p, 10, 0, 0, 0, 0, 0, 0, 0, 0, 0, 2, n, id + 1, 0, 3] := by
        rw [hnow3, zck _ _ _ _ _ (by omega), if_pos rfl, hnow2, zck _ _ _ _ _ (by omega), if_pos rfl, hrow1]; rfl
       have hs := R3.sim.put (by omega) (E.now.objs.length : Int) 9
       obtain ⟨z, cc, dd, hz, hz11, hcl, hca, hd, hd11, P⟩ := zh7 (E := E3.bare) R3.err R3.right R3.wid E.now.objs.length ha3 9 (by decide) (by show 0 + 14 ≤ 65536; omega)
       have hz' : z = 10 := by
        have : gt (rowAt E3.now.objs E.now.objs.length) 3 = z := hz
        rw [hrow3] at this
        have : (10 : Int) = z := this
        omega
       have hd' : dd = 9 := by
        have : zd9 (rowAt E3.now.objs E.now.objs.length) 9 = dd := hd
        rw [hrow3] at this
        have h9 : zd9 [c, p, p, 10, 0, 0, 0, 0, 0, 0, 0, 0, 0, 2, n, id + 1, 0, 3] 9 = 9 := by
         have : zg5 9 (gt [c, p, p, 10, 0, 0, 0, 0, 0, 0, 0, 0, 0, 2, n, id + 1, 0, 3] 1) = -1 := by unfold zg5; rw [if_neg (by omega)]
         unfold zd9
         simp only [this]
         simp [gt]
        rw [h9] at this; omega
       have hpe : (E3.put (E.now.objs.length : Int) 9).pend = E3.pend := zx4 E3 _ (by rw [Int.toNat_natCast]; rw [hd'] at hd; exact hd)
       subst hz' hd'
       rcases hs.or with g1 | ⟨g1, g2, g3, g4, _⟩
       · exact Or.inl g1
       have po : (E3.put (E.now.objs.length : Int) 9).now.objs = E3.now.objs.set E.now.objs.length (zd7 (rowAt E3.now.objs E.now.objs.length) 9) := by rw [g2]; exact P.objs
       have pl : (E3.put (E.now.objs.length : Int) 9).now.list = upd (upd E3.now.list 10 ((E3.now.list 10).eraseIdx cc)) 9 ((zau E3.now 10 cc 9).insertIdx (zau E3.now 10 cc 9).length (E.now.objs.length : Int)) := by rw [g2]; exact P.list
       refine Or.inr ⟨⟨g1.trans P.err, by rw [g2]; exact P.right, by rw [g2]; exact P.wid R3.wid ha3, hs.evs, ?_, by rw [g4, P.draws]; exact R3.draws⟩, ?_, ?_, ?_, ?_, fun i hi => ?_, ?_, ?_⟩
       · rw [hpe, hp3, hp2, hp1]; exact h.pend
       · rw [po, List.length_set]; exact hlen3
       · rw [g2, P.num]
         show E3.now.num = E.now.num
         rw [hnow3]; show E2.now.num = _
         rw [hnow2]; show E1.now.num = _
         rw [hnow]
       · rw [pl, zan, List.length_insertIdx_of_le_length (Nat.le_refl _)]
         unfold zau
         rw [if_neg (by omega)]
         show (E3.now.list 9).length + 1 = _
         rw [hnow3]; show (E2.now.list 9).length + 1 = _
         rw [hnow2]; show (E1.now.list 9).length + 1 = _
         rw [hnow]
         show (upd E.now.list 10 (E.now.list 10 ++ [(E.now.objs.length : Int)]) 9).length + 1 = _
         rw [zbc _ _ _ _ (by omega)]
       · rw [hpe, hp3, hp2, hp1]
       · rw [po, zby _ _ _ _ ha3, if_neg (by omega)]
         rw [hnow3, zck _ _ _ _ _ (by omega), if_neg (by omega), hnow2, zck _ _ _ _ _ (by omega), if_neg (by omega), hnow]
         show rowAt (E.now.objs ++ [[c, p, p, 10, 0, 0, 0, 0, 0, 0, 0, 0, 0, 2, 0, 0, 0, 3]]) i = _
         rw [zeu, if_pos hi]
       · rw [po, zby _ _ _ _ ha3, if_pos rfl, hrow3, zkr _ rfl]
         rfl
       · rw [pl, zbc _ _ _ _ (by omega), zbc _ _ _ _ (by omega)]
         rw [hnow3]; show E2.now.list 8 = _
         rw [hnow2]; show E1.now.list 8 = _
         rw [hnow]
         show upd E.now.list 10 (E.now.list 10 ++ [(E.now.objs.length : Int)]) 8 = _
         rw [zbc _ _ _ _ (by omega)]
     · refine Or.inl ?_
       rw [zgd (by rw [e15] at e3; exact e3)]
       rw [e15] at e3; exact e3
   · refine Or.inl ?_
     rw [e14] at e2
     rw [zcv e2, zgd e2]; exact e2
 · refine Or.inl ?_
   rw [zcv e1, zcv e1, zgd e1]; exact e1
theorem Og.abil {m : Nat} {d : List Int} {E : Em} (h : Og m d E) (id n p : Int) : Og m d (E.abil id n p) := by
 rcases h with h | h
 · rw [zfd h]; exact Or.inl h
 · rcases h.abil id n p with h1 | h1
   · exact Or.inl h1
   · exact Or.inr h1.rg
structure AbilsTo (m : Nat) (d : List Int) (E E' : Em) (k : Nat) : Prop where
 rg : Rg m d E'
 many : E'.now.objs.length = E.now.objs.length + k
 num : E'.now.num = E.now.num
 stack : (E'.now.list 9).length = (E.now.list 9).length + k
 pend : E'.pend = E.pend
 objs : ∀ i, i < E.now.objs.length → rowAt E'.now.objs i = rowAt E.now.objs i
 last : ∀ i, E.now.objs.length ≤ i → i < E'.now.objs.length → gt (rowAt E'.now.objs i) 13 = 2
 field : E'.now.list 8 = E.now.list 8
theorem Rg.abils {m : Nat} {d : List Int} : ∀ (l : LR) {E : Em}, Rg m d E → (E.abils l).err ≠ 0 ∨ AbilsTo m d E (E.abils l) l.length
 | [], E, h => Or.inr ⟨h, rfl, rfl, rfl, rfl, fun _ _ => rfl, fun i h1 h2 => absurd h2 (by show ¬ i < E.now.objs.length; omega), rfl⟩
 | r :: l, E, h => by
   show ((E.abil (gt r 0) (gt r 1) (gt r 2)).abils l).err ≠ 0 ∨ AbilsTo m d E ((E.abil (gt r 0) (gt r 1) (gt r 2)).abils l) (l.length + 1)
   rcases h.abil (gt r 0) (gt r 1) (gt r 2) with h1 | A
   · exact Or.inl (by rw [ze3 h1]; exact h1)
   · rcases Rg.abils l A.rg with h2 | B
     · exact Or.inl h2
     · refine Or.inr ⟨B.rg, by rw [B.many, A.many]; omega, B.num.trans A.num, by rw [B.stack, A.stack]; omega, B.pend.trans A.pend, fun i hi => (B.objs i (by rw [A.many]; omega)).trans (A.objs i hi), fun i h1 h2 => ?_, B.field.trans A.field⟩
       by_cases e : i = E.now.objs.length
       · subst e
         rw [B.objs _ (by rw [A.many]; omega)]; exact A.last
       · exact B.last i (by rw [A.many]; omega) h2
theorem Og.abils {m : Nat} {d : List Int} {E : Em} (h : Og m d E) (l : LR) : Og m d (E.abils l) := by
 rcases h with h | h
 · rw [ze3 h]; exact Or.inl h
 · rcases h.abils l with h1 | h1
   · exact Or.inl h1
   · exact Or.inr h1.rg
theorem Og.runJ {m : Nat} {d : List Int} {E : Em} (h : Og m d E) : RunJ d (m + 800) E E.gas := by
 unfold Em.gas
 rcases h with h | h
 · rw [if_pos h]; exact ⟨Or.inl h, Or.inl ⟨Or.inl h, Nat.le_refl _⟩⟩
 · rw [if_neg (by rw [h.err]; simp)]
   have h8 := h.right.smallN.list 8 (by omega)
   have hp := h.pend
   exact ⟨Or.inr ⟨h.mono (by omega), by omega⟩, Or.inr (Nat.le_refl _)⟩
theorem Og.ran {m : Nat} {d : List Int} {E : Em} (h : Og m d E) : Og (m + 800) d E.ran := by
 rcases z6p E.gas E (E.state.objs.length + 1) 0 h.runJ with h1 | h1
 · exact Or.inl h1
 · exact Or.inr h1.rg
theorem ybh {m : Nat} {d : List Int} {E : Em} (h : Og m d E) : E.gas ≤ 1000000 := by
 unfold Em.gas
 rcases h with h | h
 · rw [if_pos h]; omega
 · rw [if_neg (by rw [h.err]; simp)]
   have := h.right.smallN.list 8 (by omega)
   omega
theorem Og.flush {m : Nat} {d : List Int} {E : Em} (h : Og m d E) : Og 0 d E.flush := h.taken.abils _
theorem Og.settle {m : Nat} {d : List Int} {E : Em} (h : Og m d E) : Og 0 d E.settle := by
 unfold Em.settle
 split
 · exact h.ran.taken
 · exact h.ran.flush
end Go.Proofs.YtgobdndjemicjaaGreatDoor
namespace Go.Proofs.YtgobdndjemicjaaGreatDoor
open Go Go.RowKit Go.Shelf
theorem Rg.mids {m : Nat} {d : List Int} {E : Em} (h : Rg m d E) {id n : Int} (hh : za9 E.now id n = true) (c p : Int) :
 Og m d (E.make c p 2) ∧ Og m d ((E.make c p 2).setObj (E.made c p 2) 14 n) ∧ Og m d (((E.make c p 2).setObj (E.made c p 2) 14 n).setObj (E.made c p 2) 15 (wrap64 (id + 1))) := by
 obtain ⟨n0, n1, i0, i1⟩ := zdx hh
 have O1 := h.make c p 2
 refine ⟨O1, ?_⟩
 by_cases e1 : (E.make c p 2).err = 0
 · have R1 := O1.err e1
   obtain ⟨hl, hnow, hmade⟩ := zmq h.err e1
   rw [hmade]
   generalize E.make c p 2 = E1 at *
   have hw : wrap64 (id + 1) = id + 1 := by have := h.right.many; unfold wrap64; omega
   rw [hw]
   have hlen1 : E1.now.objs.length = E.now.objs.length + 1 := by rw [hnow]; simp
   have O2 := R1.setObj (E.now.objs.length : Int) ((14 : Nat) : Int) n (fun a g ha hg hal => by
    obtain rfl : E.now.objs.length = a := by omega
    obtain rfl : (14 : Nat) = g := by omega
    exact R1.right.setObj R1.wid _ 14 n hal (by omega) (by omega) (by omega) (by simp [zaj, gt, inB]; omega) (by omega) (by
     rw [zgs _ (R1.wid _ hal) 14 n (Or.inl rfl)]; exact R1.right.formed _ hal))
   refine ⟨O2, ?_⟩
   have e14 : ((14 : Nat) : Int) = 14 := rfl
   have e15 : ((15 : Nat) : Int) = 15 := rfl
   by_cases e2 : (E1.setObj (E.now.objs.length : Int) ((14 : Nat) : Int) n).err = 0
   · have R2 := O2.err e2
     have hnow2 := zgh R1.err e2
     rw [e14] at e2 R2 hnow2
     generalize E1.setObj (E.now.objs.length : Int) 14 n = E2 at *
     have hlen2 : E2.now.objs.length = E.now.objs.length + 1 := by rw [hnow2, zb6, hlen1]
     exact R2.setObj (E.now.objs.length : Int) ((15 : Nat) : Int) (id + 1) (fun a g ha hg hal => by
      obtain rfl : E.now.objs.length = a := by omega
      obtain rfl : (15 : Nat) = g := by omega
      exact R2.right.setObj R2.wid _ 15 (id + 1) hal (by omega) (by omega) (by omega) (by simp [zaj, gt, inB]; omega) (by omega) (by
       rw [zgs _ (R2.wid _ hal) 15 (id + 1) (Or.inr rfl)]; exact R2.right.formed _ hal))
   · rw [e14] at e2
     rw [zcv e2]; exact Or.inl e2
 · rw [zcv e1, zcv e1]; exact ⟨Or.inl e1, Or.inl e1⟩
theorem zmb (E : Em) (k : Int) (hk : k ≠ 0) : (E.fail k).err ≠ 0 := by
 unfold Em.fail
 split
 · exact hk
 · assumption
set_option maxRecDepth 100000 in
set_option maxHeartbeats 4000000 in
theorem zsd (w : World) (b : Nat) (own : Nat → Prop) (E : Em) (R : Emt w b own E) (H : Mo E) (id n p : Int) (hh : za9 E.state id n = false) :
 Calls Tryz.prog 31 #[.pointer (some ⟨b, 0, none⟩), .int .i64 id, .int .i64 n, .int .i64 p] w fun r w' => r = .returned (.int .i64 0) ∧ EPost w b own (E.fail 4) w' := by
 have HSt := Lib.hid (fun W (g : Grow w W) => zcu W b own E (R.grow g) H)
 have HHas := Lib.hid (fun (V : SV) W (r : RepSt W V E.state) => by have := zii E.state V W r id n; rw [hh] at this; exact this)
 have HF := Lib.hid (fun W (g : Grow w W) => by have := zht W b own E (R.grow g) 4; rw [zat (show (4 : Int) ≠ 0 by decide)] at this; exact this)
 have HNZ := Lib.hid (zmb E 4 (by decide))
 have HR := Lib.hid R
 clear R H hh
 generalize E.state = S0 at *
 generalize E.fail 4 = E1 at *
 go_enter Tryz.func31, Tryz.ntmps31
 go_wp2_with (first | (go_at_call 18; refine (HSt.out _ grI).mono ?_; rintro e' w' ⟨V', rfl, hR', _, nS, rfl⟩; have HR' := Lib.hid hR'; clear hR') | (go_at_call 36; refine (HHas.out _ _ (HR'.out.grow grI)).mono ?_; rintro e' w' ⟨rfl, nH, rfl⟩))
 refine (HF.out _ grI).mono ?_
 rintro e' w2 ⟨rfl, hE⟩
 obtain ⟨own2, T2⟩ := (Turn.first HR.out).step grI hE
 have HE2 := Lib.hid (fun W (g : Grow w2 W) => by have := zbd W b own2 _ (T2.em.grow g); rw [zat HNZ.out] at this; exact this)
 have HT := Lib.hid T2
 clear hE T2 HF HSt HHas HR'
 go_wp2_with (go_at_call 17; refine (HE2.out _ grI).mono ?_; rintro e' w' ⟨rfl, nx, rfl⟩)
 go_ret
 exact ⟨rfl, (HT.out.post (Grow.refl _)).more grI⟩
set_option maxRecDepth 100000 in
set_option maxHeartbeats 4000000 in
theorem zzp (w : World) (b : Nat) (own : Nat → Prop) (E : Em) (R : Emt w b own E) (H : Mo E) (he : E.err = 0) (id n p : Int) (hh : za9 E.now id n = true) (hp : ¬ (p = 0 ∨ p = 1)) :
 Calls Tryz.prog 31 #[.pointer (some ⟨b, 0, none⟩), .int .i64 id, .int .i64 n, .int .i64 p] w fun r w' => r = .returned (.int .i64 0) ∧ EPost w b own (E.fail 1) w' := by
 have hst : E.state = E.now := by unfold Em.state; rw [if_neg (by rw [he]; simp)]
 have HSt := Lib.hid (fun W (g : Grow w W) => by have := zcu W b own E (R.grow g) H; rw [hst] at this; exact this)
 have HHas := Lib.hid (fun (V : SV) W (r : RepSt W V E.now) => by have := zii E.now V W r id n; rw [hh] at this; exact this)
 have HF := Lib.hid (fun W (g : Grow w W) => by have := zht W b own E (R.grow g) 1; rw [zat (show (1 : Int) ≠ 0 by decide)] at this; exact this)
 have HNZ := Lib.hid (zmb E 1 (by decide))
 have HR := Lib.hid R
 have b0 : (p != 0) = true := by simp; omega
 have b1 : (p != 1) = true := by simp; omega
 clear R H hh hst he hp
 generalize E.now = S0 at *
 generalize E.fail 1 = E1 at *
 go_enter Tryz.func31, Tryz.ntmps31
 go_wp2_with (first | (go_at_call 18; refine (HSt.out _ grI).mono ?_; rintro e' w' ⟨V', rfl, hR', _, nS, rfl⟩; have HR' := Lib.hid hR'; clear hR') | (go_at_call 36; refine (HHas.out _ _ (HR'.out.grow grI)).mono ?_; rintro e' w' ⟨rfl, nH, rfl⟩))
 refine (HF.out _ grI).mono ?_
 rintro e' w2 ⟨rfl, hE⟩
 obtain ⟨own2, T2⟩ := (Turn.first HR.out).step grI hE
 have HE2 := Lib.hid (fun W (g : Grow w2 W) => by have := zbd W b own2 _ (T2.em.grow g); rw [zat HNZ.out] at this; exact this)
 have HT := Lib.hid T2
 clear hE T2 HF HSt HHas HR'
 go_wp2_with (go_at_call 17; refine (HE2.out _ grI).mono ?_; rintro e' w' ⟨rfl, nx, rfl⟩)
 go_ret
 exact ⟨rfl, (HT.out.post (Grow.refl _)).more grI⟩
set_option maxRecDepth 100000 in
set_option maxHeartbeats 8000000 in
theorem zvh (w : World) (b : Nat) (own : Nat → Prop) (E : Em) (R : Emt w b own E) {m : Nat} {d : List Int} (h : Rg m d E) (hm : m ≤ 131072) (hd : d.length ≤ 1048576) (GL : GlobE w own) (a : Nat) (n p : Int) (ha : a < E.now.objs.length) (hh : za9 E.now a n = true) (hp : p = 0 ∨ p = 1) :
 Calls Tryz.prog 31 #[.pointer (some ⟨b, 0, none⟩), .int .i64 (a : Int), .int .i64 n, .int .i64 p] w fun r w' => r = .returned (.int .i64 (E.abilR a n p)) ∧ EPost w b own (E.abil a n p) w' := by
 have hst : E.state = E.now := by unfold Em.state; rw [if_neg (by rw [h.err]; simp)]
 have hMo : Mo E := Or.inr (h.mg hm hd)
 have HSt := Lib.hid (fun W (g : Grow w W) => by have := zcu W b own E (R.grow g) hMo; rw [hst] at this; exact this)
 have HHas := Lib.hid (fun (V : SV) W (r : RepSt W V E.now) => by have := zii E.now V W r a n; rw [hh] at this; exact this)
 have HEr := Lib.hid (fun W (g : Grow w W) => by have := zbd W b own E (R.grow g); rw [h.err, zbf] at this; exact this)
 have e1 : E.abil a n p = (((E.make (gt (rowAt E.now.objs a) 0) p 2).setObj (E.made (gt (rowAt E.now.objs a) 0) p 2) 14 n).setObj (E.made (gt (rowAt E.now.objs a) 0) p 2) 15 (wrap64 ((a : Int) + 1))).put (E.made (gt (rowAt E.now.objs a) 0) p 2) 9 := by
  unfold Em.abil
  rw [if_neg (by rw [h.err]; simp), if_neg (by rw [hh]; simp), if_neg (by omega), Int.toNat_natCast]
 have e2 : E.abilR a n p = if (E.abil a n p).err ≠ 0 then 0 else E.made (gt (rowAt E.now.objs a) 0) p 2 := by unfold Em.abilR; rw [Int.toNat_natCast]
 obtain ⟨O1, O2, O3⟩ := h.mids hh (gt (rowAt E.now.objs a) 0) p
 rw [e2, e1]
 have hMk := fun W (g : Grow w W) => zxz W b own E (R.grow g) hMo (gt (rowAt E.now.objs a) 0) p 2
 have HOC := Lib.hid (fun (V : SV) W (r : RepSt W V E.now) => by
  have hc := r.objs.cell a 0 ha (by omega)
  rw [Nat.add_zero] at hc
  exact (⟨r.objs.len, hc⟩ : V.objs.n = E.now.objs.length ∧ W.cell? ⟨V.objs.b, V.objs.o + a * 18, none⟩ = some (I (gt (rowAt E.now.objs a) 0))))
 have ha1 : (a : Int) < E.now.objs.length := by omega
 have hn9 : E.now.objs.length ≤ 400 := h.right.many
 generalize gt (rowAt E.now.objs a) 0 = c at *
 have hb0 : p = 0 ∨ p = 1 := hp
 have M1 := Lib.hid (O1.mo hm hd)
 have M2 := Lib.hid (O2.mo hm hd)
 have M3 := Lib.hid (O3.mo hm hd)
 generalize hE3 : ((E.make c p 2).setObj (E.made c p 2) 14 n).setObj (E.made c p 2) 15 (wrap64 ((a : Int) + 1)) = E3 at *
 have HE3 := Lib.hid hE3
 generalize hE2 : (E.make c p 2).setObj (E.made c p 2) 14 n = E2 at *
 have HE2' := Lib.hid hE2
 generalize hE1 : E.make c p 2 = E1 at *
 have HMk := Lib.hid hMk
 generalize E.made c p 2 = o at *
 have HR := Lib.hid R
 have HGL := Lib.hid GL
 generalize E.now = S0 at *
 clear R GL hMo hst h hh e1 e2 O1 O2 O3 hE1 hE2 hE3 hMk hp ha
 generalize hres : (if (E3.put o 9).err ≠ 0 then (0 : Int) else o) = res
 have HRES := Lib.hid hres
 clear hres
 rcases hb0 with rfl | rfl
 all_goals
  go_enter Tryz.func31, Tryz.ntmps31
  go_wp2_with (first | (go_at_call 18; refine (HSt.out _ grI).mono ?_; rintro e' w' ⟨V', rfl, hR', hu, nS, rfl⟩; obtain ⟨hon, hoc⟩ := HOC.out _ _ hR'; have hob := (zaz hoc).1; have hge : ¬ V'.objs.b < w.heap.size := (by have := (hu _ (Or.inl (Sl.owns_b (by omega)))).1; omega); rw [zgb, if_neg hge] at hoc; rw [zab] at hob; have HR' := Lib.hid hR'; clear hR' hu) | (go_at_call 36; refine (HHas.out _ _ (HR'.out.grow grI)).mono ?_; rintro e' w' ⟨rfl, nH, rfl⟩) | (go_at_call 17; refine (HEr.out _ grI).mono ?_; rintro e' w' ⟨rfl, nx, rfl⟩))
  refine (HMk.out _ grI).mono ?_
  rintro e' w1 ⟨rfl, hE⟩
  obtain ⟨own1, T1⟩ := (Turn.first HR.out).step grI hE
  have HS1 := Lib.hid (fun W (g : Grow w1 W) => by have := zrx W b own1 _ (T1.em.grow g) M1.out o 14 n; rw [HE2'.out] at this; exact this)
  have HT1 := Lib.hid T1
  clear hE T1 HMk HSt HHas HR' HEr hoc hob hon HOC hge
  go_wp2_with fail
  refine (HS1.out _ grI).mono ?_
  rintro e' w2 ⟨rfl, hE⟩
  obtain ⟨own2, T2⟩ := HT1.out.step grI hE
  have HS2 := Lib.hid (fun W (g : Grow w2 W) => by have := zrx W b own2 _ (T2.em.grow g) M2.out o 15 (wrap64 ((a : Int) + 1)); rw [HE3.out] at this; exact this)
  have HT2 := Lib.hid T2
  clear hE T2 HS1 HT1
  have hwr : wrap64 ((a : Int) + 1) = (a : Int) + 1 := by unfold wrap64; omega
  rw [hwr] at HS2
  clear hwr
  go_wp2_with fail
  refine (HS2.out _ grI).mono ?_
  rintro e' w3 ⟨rfl, hE⟩
  obtain ⟨own3, T3⟩ := HT2.out.step grI hE
  have HS3 := Lib.hid (fun W (g : Grow w3 W) => zmt W b own3 E3 (T3.em.grow g) M3.out ((T3.glob HGL.out).grow g) o 9)
  have HT3 := Lib.hid T3
  clear hE T3 HS2 HT2
  go_wp2_with fail
  refine (HS3.out _ grI).mono ?_
  rintro e' w4 ⟨rfl, hE⟩
  obtain ⟨own4, T4⟩ := HT3.out.step grI hE
  have HT4 := Lib.hid T4
  clear hE HS3 HT3
  by_cases h4 : (E3.put o 9).err = 0
  · have HV : Hid (o = res) := by rw [Hid, ← HRES.out, if_neg (by rw [h4]; simp)]
    have HE4 := Lib.hid (fun W (g : Grow w4 W) => by have := zbd W b own4 _ (T4.em.grow g); rw [h4, zbf] at this; exact this)
    clear T4 h4
    go_wp2_with (go_at_call 17; refine (HE4.out _ grI).mono ?_; rintro e' w' ⟨rfl, nx, rfl⟩)
    go_ret
    exact ⟨by rw [← HV.out]; rfl, (HT4.out.post (Grow.refl _)).more grI⟩
  · have HV : Hid (0 = res) := by rw [Hid, ← HRES.out, if_pos h4]
    have HE4 := Lib.hid (fun W (g : Grow w4 W) => by have := zbd W b own4 _ (T4.em.grow g); rw [zat h4] at this; exact this)
    clear T4 h4
    go_wp2_with (go_at_call 17; refine (HE4.out _ grI).mono ?_; rintro e' w' ⟨rfl, nx, rfl⟩)
    go_ret
    exact ⟨by rw [← HV.out]; rfl, (HT4.out.post (Grow.refl _)).more grI⟩
theorem zxd (id n : Int) : za9 St0 id n = false := by
 unfold za9
 rw [decide_eq_false (by rintro ⟨h1, h2⟩; have h2 : id < ((St0.objs.length : Nat) : Int) := h2; have : St0.objs.length = 0 := rfl; omega)]; rfl
theorem zpb (w : World) (b : Nat) (own : Nat → Prop) (E : Em) (R : Emt w b own E) {m : Nat} {d : List Int} (h : Og m d E) (hm : m ≤ 131072) (hd : d.length ≤ 1048576) (GL : GlobE w own) (id n p : Int) :
 Calls Tryz.prog 31 #[.pointer (some ⟨b, 0, none⟩), .int .i64 id, .int .i64 n, .int .i64 p] w fun r w' => r = .returned (.int .i64 (E.abilR id n p)) ∧ EPost w b own (E.abil id n p) w' := by
 by_cases he : E.err = 0
 · have hR := h.err he
   have hst : E.state = E.now := by unfold Em.state; rw [if_neg (by rw [he]; simp)]
   by_cases hh : za9 E.now id n = true
   · by_cases hp : p = 0 ∨ p = 1
     · obtain ⟨_, _, i0, i1⟩ := zdx hh
       obtain ⟨a, rfl⟩ := Int.eq_ofNat_of_zero_le i0
       exact zvh w b own E R hR hm hd GL a n p (by omega) hh hp
     · have e1 : E.abil id n p = E.fail 1 := by
        unfold Em.abil Em.fail
        rw [if_neg (by rw [he]; simp), if_neg (by rw [hh]; simp), if_pos hp, if_pos he]
       have e2 : E.abilR id n p = 0 := by unfold Em.abilR; rw [e1, if_pos (zmb _ _ (by decide))]
       rw [e1, e2]
       exact zzp w b own E R (h.mo hm hd) he id n p hh hp
   · have hh' : za9 E.now id n = false := by simpa using hh
     have e1 : E.abil id n p = E.fail 4 := by
      unfold Em.abil Em.fail
      rw [if_neg (by rw [he]; simp), if_pos hh', if_pos he]
     have e2 : E.abilR id n p = 0 := by unfold Em.abilR; rw [e1, if_pos (zmb _ _ (by decide))]
     rw [e1, e2]
     exact zsd w b own E R (h.mo hm hd) id n p (by rw [hst]; exact hh')
 · have hst : E.state = St0 := by unfold Em.state; rw [if_pos he]
   have e1 : E.abil id n p = E.fail 4 := by rw [zfd he]; unfold Em.fail; rw [if_neg he]
   have e2 : E.abilR id n p = 0 := by unfold Em.abilR; rw [zfd he, if_pos he]
   rw [e1, e2]
   exact zsd w b own E R (h.mo hm hd) id n p (by rw [hst]; exact zxd _ _)
set_option maxRecDepth 100000 in
set_option maxHeartbeats 4000000 in
theorem zse (w : World) (b : Nat) (own : Nat → Prop) (E : Em) (R : Emt w b own E) {m : Nat} {d : List Int} (h : Og m d E) (hm : m ≤ 131072) (hd : d.length ≤ 1048576) (GL : GlobE w own) (s : Sl) (l : LR) (RL : Rows' w s 3 l) (hl : l.length ≤ 1048576) (hs : 0 < l.length → ¬ own s.b) :
 Calls Tryz.prog 86 #[.pointer (some ⟨b, 0, none⟩), s.val] w fun r w' => r = .returned (.int .i64 (E.abilsR l)) ∧ EPost w b own (E.abils l) w' := by
 have hsn := RL.len
 have HO : Hid (∀ k, Og m d (E.abils (l.take k))) := fun k => h.abils _
 have HTK := Lib.hid (zsm E l)
 have hfin : E.abils l = E.abils (l.take l.length) := by rw [List.take_length]
 have e2 : E.abilsR l = if (E.abils l).err ≠ 0 then 0 else (l.length : Int) := rfl
 rw [e2, hfin]
 have HZ : Hid (E.abils (l.take 0) = E) := rfl
 generalize hres : (if (E.abils (l.take l.length)).err ≠ 0 then (0 : Int) else (l.length : Int)) = res
 have HRES := Lib.hid hres
 clear hres
 have HR := Lib.hid R
 have HGL := Lib.hid GL
 have HRL := Lib.hid RL
 have HS := Lib.hid hs
 clear R GL RL h hfin e2 hs
 go_enter Tryz.func86, Tryz.ntmps86
 go_wp2_with fail
 go_loopw [9] (fun i wr => ∃ (k : Nat) (ownk : Nat → Prop), k ≤ l.length ∧ i = .int .i64 k ∧ Turn w b own (E.abils (l.take k)) wr ownk) (fun i _ => l.length - (intOf i).toNat)
 case atStart => exact ⟨0, own, by omega, rfl, by rw [HZ.out]; exact Turn.first HR.out⟩
 case round =>
  obtain ⟨k, ownk, hk, rfl, hTu⟩ := hrel
  have HTu := Lib.hid hTu
  by_cases hlt : k < l.length
  · obtain ⟨qb, qw, qsz, qsub, qc⟩ := (HRL.out.kept hTu.kept (fun hl => HS.out hl)).at (by decide) k hlt
    have hO := HO.out k
    have HSk := Lib.hid (HTK.out k hlt)
    have HAb := Lib.hid (fun Wx (g : Grow wr Wx) => zpb Wx b ownk _ (hTu.em.grow g) hO hm hd ((hTu.glob HGL.out).grow g) (gt (rowAt l k) 0) (gt (rowAt l k) 1) (gt (rowAt l k) 2))
    generalize E.abils (l.take k) = Ek at *
    generalize rowAt l k = row at *
    clear hTu hO qc
    go_wp2_with (go_at_call 31; refine (HAb.out _ grI).mono ?_; rintro e' w2 ⟨rfl, hE⟩; obtain ⟨own3, T3⟩ := HTu.out.step grI hE; rw [← HSk.out] at T3; have HT3 := Lib.hid T3; clear hE T3)
    go_roundw
    case rel => exact ⟨k + 1, own3, by omega, by go_num, HT3.out⟩
    case measure => simp [intOf]; omega
  · have hkl : k = l.length := by omega
    subst hkl
    by_cases h4 : (E.abils (l.take l.length)).err = 0
    · have HV : Hid ((l.length : Int) = res) := by rw [Hid, ← HRES.out, if_neg (by rw [h4]; simp)]
      have HE4 := Lib.hid (fun W (g : Grow wr W) => by have := zbd W b ownk _ (hTu.em.grow g); rw [h4, zbf] at this; exact this)
      clear hTu h4 HO HTK
      go_wp2_with (go_at_call 17; refine (HE4.out _ grI).mono ?_; rintro e' w' ⟨rfl, nx, rfl⟩)
      go_ret
      exact ⟨by rw [← HV.out]; rfl, (HTu.out.post (Grow.refl _)).more grI⟩
    · have HV : Hid (0 = res) := by rw [Hid, ← HRES.out, if_pos h4]
      have HE4 := Lib.hid (fun W (g : Grow wr W) => by have := zbd W b ownk _ (hTu.em.grow g); rw [zat h4] at this; exact this)
      clear hTu h4 HO HTK
      go_wp2_with (go_at_call 17; refine (HE4.out _ grI).mono ?_; rintro e' w' ⟨rfl, nx, rfl⟩)
      go_ret
      exact ⟨by rw [← HV.out]; rfl, (HTu.out.post (Grow.refl _)).more grI⟩
end Go.Proofs.YtgobdndjemicjaaGreatDoor
namespace Go.Proofs.YtgobdndjemicjaaGreatDoor
open Go Go.RowKit Go.Shelf
@[go_sem] theorem z50 (w : World) (V : SV) (num : Nat → Int) : (Instr.field 29 (.agg (stA V num)) 3).run Tryz.prog w = .ok (.agg (cellsOf [num 18, num 19, num 20, num 21, num 22, num 23, num 24])) w := by kernel_rfl
@[go_sem] theorem z6a (w : World) (c : List Int) (hc : c.length = 7) (k : IntKind) (i : Int) (h0 : 0 ≤ i) (h1 : i < 7) : (Instr.index 27 (.agg (cellsOf c)) (.int k i)).run Tryz.prog w = .ok (I (gt c i.toNat)) w :=
 ze1 w 27 3 7 Tryz.underlying27 Tryz.underlying3 (by kernel_rfl) c hc k i h0 h1
theorem RepE.noPendF {w : World} {b : Nat} {own : Nat → Prop} {V : SV} {sd se sp : Sl} {E : Em} (h : RepE w b V sd se sp E) (ho : ∀ k, own k ↔ zf2 b V sd se sp k) {w' : World} (g : Grow (w.setRow b (hoA V E.now.num (emR sd se .nil E.err))) w') : ∃ own2, Emt w' b own2 { E with pend := [] } ∧ Kept own w w' ∧ ∀ k, own2 k → own k := by
 have k1 : Kept (fun k => k = b) w (w.setRow b (hoA V E.now.num (emR sd se .nil E.err))) := (Kept.refl _ _).setRow b _ (fun _ => rfl)
 have r : RepE (w.setRow b (hoA V E.now.num (emR sd se .nil E.err))) b V sd se .nil { E with pend := [] } := by
  refine ⟨⟨by rw [za1 _ _ _ _ h.host.free, if_pos rfl], by rw [za7]; exact h.host.free, h.host.rep.kept k1 (fun k hk e => h.host.apart (by have e : k = b := e; rw [← e]; exact hk)), h.host.apart, fun k hk => by rw [size_setRow]; exact h.host.in' k hk⟩, ?_, ?_, ?_, Rows'.nil _ _, Room.nil _ _, ?_, ?_, fun _ h => h.elim, h.apD, h.apE, fun h => h, fun k hk => ⟨(h.apVE k hk).1, fun h => h⟩, fun k hk => ⟨(h.apDE k hk).1, fun h => h⟩, fun _ _ h => h⟩
  · exact h.drs.kept k1 (fun hl e => h.apD (by have e : sd.b = b := e; rw [← e]; exact zbk h.drs hl))
  · exact h.evs.kept k1 (fun hl e => h.apE (by have e : se.b = b := e; rw [← e]; exact zar h.evs hl))
  · exact h.evR.kept k1 (fun k hk e => h.apE (by have e : k = b := e; rw [← e]; exact hk))
  · exact fun k hk => by rw [size_setRow]; exact h.inD k hk
  · exact fun k hk => by rw [size_setRow]; exact h.inE k hk
 have k2 : Kept own w (w.setRow b (hoA V E.now.num (emR sd se .nil E.err))) := (Kept.refl _ _).setRow b _ (fun _ => (ho b).2 (Or.inl rfl))
 refine ⟨zf2 b V sd se .nil, ⟨V, sd, se, .nil, r.kept (g.kept (fun _ => False)) (fun _ _ h => h), fun _ => Iff.rfl⟩, k2.trans (o2 := fun _ => False) (g.kept _) (fun _ _ h => h.elim), fun k hk => (ho k).2 ?_⟩
 rcases hk with h1 | h1 | h1 | h1 | h1
 · exact Or.inl h1
 · exact Or.inr (Or.inl h1)
 · exact Or.inr (Or.inr (Or.inl h1))
 · exact Or.inr (Or.inr (Or.inr (Or.inl h1)))
 · exact h1.elim
set_option maxRecDepth 100000 in
set_option maxHeartbeats 2000000 in
theorem z7s (w : World) (b : Nat) (own : Nat → Prop) (E : Em) (R : Emt w b own E) (he : E.err = 0) (hl : E.pend.length ≤ 1048576) :
 Calls Tryz.prog 78 #[.pointer (some ⟨b, 0, none⟩)] w fun e w' => ∃ s : Sl, e = .returned s.val ∧ Own w' s 99 3 w.heap.size (zci E.pend) ∧ s.n = E.pend.length ∧ ∃ own2, Emt w' b own2 E.taken ∧ Kept own w w' ∧ ∀ k, own2 k → own k := by
 have HP := Lib.hid (fun W (g : Grow w W) => znw W b own E (R.grow g) he hl)
 obtain ⟨V, sd, se, sp, hr, ho⟩ := R
 have hH := hr.host
 have hcell := zae (hH).free (hH).blk; have hfz := zag (hH).free; have hset := zah (hH).free (hH).blk; have hblk := (hH).blk; have hfree := (hH).free; have hlt := (hH).lt; have hne1 : ¬ b = (w).heap.size := (by omega); have hne2 : ¬ (w).heap.size = b := (by omega)
 have hs := hset 39 Sl.nil.val
 rw [zp5, show Sl.nil.val = Value.slice none 0 0 from rfl] at hs
 have hc : w.cell? ⟨b, 39, none⟩ = some sp.val := (zae hr.host.free hr.host.blk 39).trans (zn6 _ _ _ _ _ _)
 have HR := Lib.hid hr
 have HO := Lib.hid ho
 clear hr ho hH hblk hset hcell he
 go_enter Tryz.func78, Tryz.ntmps78
 go_wp2_with (go_at_call 21; refine (HP.out _ grI).mono ?_; rintro e' w' ⟨s, rfl, hO, hn, nx, rfl⟩; (try simp only [zad] at hO); (try simp only [zac] at hO); have HOw := Lib.hid hO; have HN := Lib.hid hn; clear hO hn)
 go_ret
 refine ⟨s, rfl, HOw.out.apart (b := b) (by repeat (first | exact Off.setRow2 _ _ _ _ | exact Off.setRow _ _ _ | refine Off.plus ?_ _ | refine Off.alloc ?_ _)) (fun b' hb' e => ?_), HN.out, HR.out.noPendF HO.out grI⟩
 have := (HOw.out.lt b' hb').1
 omega
def Em.gone (E : Em) : LR := if E.err ≠ 0 then [] else E.pend
theorem z8s (w : World) (b : Nat) (own : Nat → Prop) (E : Em) (R : Emt w b own E) (H : Mo E) :
 Calls Tryz.prog 78 #[.pointer (some ⟨b, 0, none⟩)] w fun e w' => ∃ (s : Sl) (own2 : Nat → Prop), e = .returned s.val ∧ Own w' s 99 3 w.heap.size (zci E.gone) ∧ s.n = E.gone.length ∧ Turn w b own E.taken w' own2 ∧ ∀ k, s.owns k → ¬ own2 k := by
 by_cases he : E.err = 0
 · have e1 : E.gone = E.pend := by unfold Em.gone; rw [if_neg (by rw [he]; simp)]
   rw [e1]
   refine (z7s w b own E R he (by have := (H.get he).ok.pend; omega)).mono ?_
   rintro _ w' ⟨s, rfl, hO, hn, own2, h1, h2, h3⟩
   refine ⟨s, own2, rfl, hO, hn, ⟨h1, h2, fun k hk => Or.inl (h3 k hk)⟩, fun k hk h => ?_⟩
   have := (hO.lt k hk).1
   have := R.lt k (h3 k h)
   omega
 · have e1 : E.gone = [] := by unfold Em.gone; rw [if_pos he]
   rw [e1]
   refine (zpc w b own E R he).mono ?_
   rintro _ w' ⟨rfl, own2, h1, h2, h3⟩
   exact ⟨.nil, own2, rfl, ⟨⟨rfl, Nat.le_refl _, fun j u hu => by simp [zci] at hu⟩, Nat.zero_le _, rfl, fun _ h => h.elim⟩, rfl, ⟨h1, h2, h3⟩, fun k hk => hk.elim⟩
set_option maxRecDepth 100000 in
set_option maxHeartbeats 4000000 in
theorem z13 (w : World) (b : Nat) (own : Nat → Prop) (E : Em) (R : Emt w b own E) {m : Nat} {d : List Int} (h : Og m d E) (hm : m ≤ 131072) (hd : d.length ≤ 1048576) (GL : GlobE w own) (HS : ∀ (W : World) (s : Sl) (q : Nat) (act : Int), Dat W s q act E.gone → Calls Tryz.prog 137 #[s.val, z1o q] W fun e w' => e = .returned (.tuple #[]) ∧ Dat w' s q act (stbS (ltP act) E.gone) ∧ Kept s.owns W w') :
 Calls Tryz.prog 81 #[.pointer (some ⟨b, 0, none⟩)] w fun r w' => (∃ v : Int, r = .returned (.int .i64 v)) ∧ EPost w b own E.flush w' := by
 have hMo := h.mo hm hd
 have hlt := R.lt
 have hwid : ∀ i, i < E.pend.length → (rowAt E.pend i).length = 3 := by obtain ⟨V, sd, se, sp, hr, _⟩ := R; exact hr.pend.wid
 have HSt := Lib.hid (fun W (g : Grow w W) => zcu W b own E (R.grow g) hMo)
 have HTk := Lib.hid (fun W (g : Grow w W) => z8s W b own E (R.grow g) hMo)
 have hgl : E.gone.length ≤ 131072 := by
  unfold Em.gone
  split
  · exact Nat.zero_le _
  · rename_i he
    have he : E.err = 0 := by simpa using he
    have := (h.err he).pend
    omega
 have hgw : ∀ i, i < E.gone.length → (rowAt E.gone i).length = 3 := by
  unfold Em.gone
  split
  · intro i hi; cases hi
  · exact hwid
 have hact : ∀ V W, RepSt W V E.state → True := fun _ _ _ => trivial
 have hfl : E.flush = E.taken.abils (stbS (ltP (E.state.num 19)) E.gone) := by
  unfold Em.flush Em.gone Em.state
  by_cases he : E.err = 0
  · rw [if_neg (by rw [he]; simp), if_neg (by rw [he]; simp), if_neg (by rw [he]; simp)]
  · rw [if_pos he, if_pos he, if_pos he]; rfl
 have hOt := h.taken
 have HS := Lib.hid HS
 rw [hfl]
 have HPut := Lib.hid (fun W own' (R' : Emt W b own' E.taken) (GL' : GlobE W own') (s : Sl) (l : LR) (RL : Rows' W s 3 l) (hl : l.length ≤ 1048576) (hs : 0 < l.length → ¬ own' s.b) => zse W b own' E.taken R' hOt (by omega) hd GL' s l RL hl hs)
 have hqn : ∀ q, w.heap.size ≤ q → q ≠ 0 := fun q hq e => by have := GL.base.size; omega
 have HQN := Lib.hid hqn
 have HR := Lib.hid R
 have HGL := Lib.hid GL
 have HGW := Lib.hid hgw
 have HLT := Lib.hid hlt
 clear R GL h hMo hOt hfl hact hwid hqn hgw hlt
 generalize E.gone = L at *
 generalize E.state = S0 at *
 have e19 : gt [S0.num 18, S0.num 19, S0.num 20, S0.num 21, S0.num 22, S0.num 23, S0.num 24] 1 = S0.num 19 := rfl
 go_enter Tryz.func81, Tryz.ntmps81
 go_wp2_with (go_at_call 18; refine (HSt.out _ grI).mono ?_; rintro e' w' ⟨V', rfl, _, _, nS, rfl⟩)
 refine (HTk.out _ grI).mono ?_
 rintro e' w2 ⟨s, own2, rfl, hO, hn, hT, hap⟩
 have hqc : ((w.plus nS).alloc (.cells #[.int .i64 (S0.num 19)] 3)).cell? ⟨w.heap.size + nS.objs.size, 0, none⟩ = some (I (S0.num 19)) := by go_simp
 have hGW : Grow w ((w.plus nS).alloc (.cells #[.int .i64 (S0.num 19)] 3)) := grI
 have hql : w.heap.size + nS.objs.size < ((w.plus nS).alloc (.cells #[.int .i64 (S0.num 19)] 3)).heap.size := by simp only [zab, zaa]; omega
 have hq0 := HQN.out (w.heap.size + nS.objs.size) (by omega)
 have hqo : ¬ own (w.heap.size + nS.objs.size) := fun h => by have := HLT.out _ h; omega
 have hso : ∀ k, s.owns k → ((w.plus nS).alloc (.cells #[.int .i64 (S0.num 19)] 3)).heap.size ≤ k := fun k hk => (hO.lt k hk).1
 generalize hq : w.heap.size + nS.objs.size = q at *
 have hws : w.heap.size ≤ q := by omega
 clear hq HSt HTk
 generalize (w.plus nS).alloc (.cells #[.int .i64 (S0.num 19)] 3) = W1 at *
 have hsb : ¬ q = s.b := fun e => by
  cases s with
  | nil => exact hq0 e
  | mk bb oo nn cc => have := hso bb rfl; have e : q = bb := e; omega
 have hD : Dat w2 s q (S0.num 19) L := ⟨hO.rows (by omega) HGW.out, hO.room, by rw [hT.kept.cell q 0 hql hqo]; exact hqc, hsb⟩
 have HSrt := Lib.hid (fun W (g : Grow w2 W) => HS.out W s q (S0.num 19) (hD.grow g))
 have HT := Lib.hid hT
 have HAP := Lib.hid hap
 have HSO := Lib.hid hso
 have HG1 := Lib.hid hGW
 clear hO hT hap hqc hql hq0 hqo hso hD hsb hn hGW
 unfold z1o at HSrt
 go_wp2_with fail
 refine (HSrt.out _ grI).mono ?_
 rintro e' w3 ⟨rfl, hD3, hK3⟩
 have hT3 : Turn W1 b own E.taken w3 own2 := by
  refine ⟨HT.out.em.kept hK3 (fun k hk h => HAP.out k h hk), HT.out.kept.trans (o2 := s.owns) hK3 (fun k hk h => ?_), fun k hk => (HT.out.own k hk).imp id (fun ⟨h1, h2⟩ => ⟨h1, Nat.lt_of_lt_of_le h2 hK3.size⟩)⟩
  have := HSO.out k h
  omega
 have hgl3 := hT3.glob (HGL.out.grow HG1.out)
 have hls := z45 (ltP (S0.num 19)) L
 have HP3 := Lib.hid (fun W (g : Grow w3 W) => HPut.out W own2 (hT3.em.grow g) (hgl3.grow g) s (stbS (ltP (S0.num 19)) L) ((hD3.grow g).rows) (by omega) (fun hl h => HAP.out _ (Sl.owns_b (by rw [hD3.rows.len]; exact hl)) h))
 have HT3 := Lib.hid hT3
 clear hD3 hK3 hT3 hgl3 HSrt HPut HT
 go_wp2_with fail
 refine (HP3.out _ grI).mono ?_
 rintro e' w4 ⟨rfl, hE⟩
 obtain ⟨own4, T4⟩ := HT3.out.step grI hE
 have HT4 := Lib.hid T4
 clear hE T4 HP3
 go_wp2_with fail
 go_ret
 exact ⟨⟨_, rfl⟩, EPost.low HG1.out ((HT4.out.post (Grow.refl _)).more grI)⟩
set_option maxRecDepth 100000 in
set_option maxHeartbeats 4000000 in
theorem zy8 (w : World) (b : Nat) (own : Nat → Prop) (E : Em) (R : Emt w b own E) {m : Nat} {d : List Int} (h : Og m d E) (hm : m + 800 ≤ 130000) (hd : d.length ≤ 1048576) (GL : GlobE w own) (HS : ∀ (W : World) (s : Sl) (q : Nat) (act : Int), Dat W s q act E.ran.gone → Calls Tryz.prog 137 #[s.val, z1o q] W fun e w' => e = .returned (.tuple #[]) ∧ Dat w' s q act (stbS (ltP act) E.ran.gone) ∧ Kept s.owns W w') :
 Calls Tryz.prog 29 #[.pointer (some ⟨b, 0, none⟩)] w fun r w' => r = .returned (.tuple #[]) ∧ EPost w b own E.settle w' := by
 have hMo := h.mo (by omega) hd
 have HSt := Lib.hid (fun W (g : Grow w W) => zcu W b own E (R.grow g) hMo)
 have hsmS : Small E.state := by
  unfold Em.state
  rcases h with h | h
  · rw [if_pos h]; exact ⟨Nat.zero_le _, fun _ _ => Nat.zero_le _⟩
  · rw [if_neg (by rw [h.err]; simp)]; exact h.right.smallN.small (by omega)
 have HFu := Lib.hid (fun V W (r : RepSt W V E.state) => z15 E.state V W r hsmS)
 have HRun := Lib.hid (fun W (g : Grow w W) => z3v W b own E (R.grow g) (GL.grow g) (M := m + 800) (d := d) (by omega) hd E.gas h.runJ (ybh h) (E.state.objs.length + 1))
 have hO2 := h.ran
 have HS := Lib.hid HS
 have hMo2 := hO2.mo (by omega) hd
 have hran : (zvq E.gas E (E.state.objs.length + 1) 0).1 = E.ran := rfl
 rw [hran] at HRun
 have hset : E.settle = if E.ran.state.num 24 ≠ 0 then E.ran.taken else E.ran.flush := rfl
 rw [hset]
 have HSt2 := Lib.hid (fun W own' (R' : Emt W b own' E.ran) => zcu W b own' E.ran R' hMo2)
 have HTk2 := Lib.hid (fun W own' (R' : Emt W b own' E.ran) => zt3 W b own' E.ran R' hMo2)
 have HFl2 := Lib.hid (fun W own' (R' : Emt W b own' E.ran) (GL' : GlobE W own') => z13 W b own' E.ran R' hO2 (by omega) hd GL' HS.out)
 have HR := Lib.hid R
 have HGL := Lib.hid GL
 generalize (zvq E.gas E (E.state.objs.length + 1) 0).2 = rv at *
 clear R GL h hMo hO2 hMo2 hran hset hsmS
 generalize E.ran = E1 at *
 generalize E.state = S0 at *
 by_cases h24 : E1.state.num 24 = 0
 · rw [if_neg (by rw [h24]; simp)]
   have e24 : gt [E1.state.num 18, E1.state.num 19, E1.state.num 20, E1.state.num 21, E1.state.num 22, E1.state.num 23, E1.state.num 24] 6 = 0 := h24
   clear h24
   generalize E1.state = S1 at *
   go_enter Tryz.func29, Tryz.ntmps29
   go_wp2_with (first | (go_at_call 18; refine (HSt.out _ grI).mono ?_; rintro e' w' ⟨V', rfl, hR', _, nS, rfl⟩; have HR' := Lib.hid hR'; clear hR') | (go_at_call 80; refine (HFu.out _ _ (HR'.out.grow grI)).mono ?_; rintro e' w' ⟨rfl, nF, rfl⟩))
   refine (HRun.out _ grI).mono ?_
   rintro e' w2 ⟨rfl, hE⟩
   obtain ⟨own2, T2⟩ := (Turn.first HR.out).step grI hE
   have HS2 := Lib.hid (fun W (g : Grow w2 W) => HSt2.out W own2 (T2.em.grow g))
   have HF2 := Lib.hid (fun W (g : Grow w2 W) => HFl2.out W own2 (T2.em.grow g) ((T2.glob HGL.out).grow g))
   have HT2 := Lib.hid T2
   clear hE T2 HRun HSt HFu HR' HFl2 HSt2 HTk2
   go_wp2_with (go_at_call 18; refine (HS2.out _ grI).mono ?_; rintro e' w' ⟨V', rfl, _, _, nS2, rfl⟩)
   refine (HF2.out _ grI).mono ?_
   rintro e' w3 ⟨⟨v, rfl⟩, hE⟩
   obtain ⟨own3, T3⟩ := HT2.out.step grI hE
   have HT3 := Lib.hid T3
   clear hE T3 HF2 HS2
   go_wp2_with fail
   go_end0
   exact ⟨rfl, HT3.out.post (Grow.refl _)⟩
 · rw [if_pos h24]
   have e24 : (gt [E1.state.num 18, E1.state.num 19, E1.state.num 20, E1.state.num 21, E1.state.num 22, E1.state.num 23, E1.state.num 24] 6 != 0) = true := by rw [bne_iff_ne]; exact h24
   clear h24
   generalize E1.state = S1 at *
   go_enter Tryz.func29, Tryz.ntmps29
   go_wp2_with (first | (go_at_call 18; refine (HSt.out _ grI).mono ?_; rintro e' w' ⟨V', rfl, hR', _, nS, rfl⟩; have HR' := Lib.hid hR'; clear hR') | (go_at_call 80; refine (HFu.out _ _ (HR'.out.grow grI)).mono ?_; rintro e' w' ⟨rfl, nF, rfl⟩))
   refine (HRun.out _ grI).mono ?_
   rintro e' w2 ⟨rfl, hE⟩
   obtain ⟨own2, T2⟩ := (Turn.first HR.out).step grI hE
   have HS2 := Lib.hid (fun W (g : Grow w2 W) => HSt2.out W own2 (T2.em.grow g))
   have HF2 := Lib.hid (fun W (g : Grow w2 W) => HTk2.out W own2 (T2.em.grow g))
   have HT2 := Lib.hid T2
   clear hE T2 HRun HSt HFu HR' HFl2 HSt2 HTk2
   go_wp2_with (go_at_call 18; refine (HS2.out _ grI).mono ?_; rintro e' w' ⟨V', rfl, _, _, nS2, rfl⟩)
   refine (HF2.out _ grI).mono ?_
   rintro e' w3 ⟨s3, rfl, _, _, hE⟩
   obtain ⟨own3, T3⟩ := HT2.out.step grI hE
   have HT3 := Lib.hid T3
   clear hE T3 HF2 HS2
   go_wp2_with fail
   first | go_end0 | refine bodyPost_ret (results_none rfl _ _ _) rfl ?_
   exact ⟨rfl, HT3.out.post (Grow.refl _)⟩
end Go.Proofs.YtgobdndjemicjaaGreatDoor
