/- The document's shapes: cards of objects, creatures, statics. -/
import Derived.Test.YthfalocligkamaaGreatDoorMRef08
import Derived.Test.YthfalocligkamaaGreatDoorMEval
namespace Go.Proofs.YthfalocligkamaaGreatDoor
open Go Go.RowKit
def zgg : Prop := ∀ (w : World) (n : Nat), n < 120 → Calls Tryz.prog 88 #[.int .i64 (n : Int)] w fun r w' => zcz w w' r (zaq n)
set_option maxRecDepth 100000 in
set_option maxHeartbeats 1000000 in
theorem z7n (T8 : zgg) (S : St) (V : SV) (w : World) (R : RepSt w V S) (hR : Right S) (id : Nat) (hid : id < S.objs.length) :
 Calls Tryz.prog 54 #[.agg (stA V S.num), .int .i64 (id : Int)] w fun e w' => ∃ c : CdV, e = .returned (.agg c.arr) ∧ CardOk w' w.heap.size c (zbj S id) ∧ Grow w w' := by
 have hN := R.objs.len
 obtain ⟨hob, how, hosz, hosub, hocell⟩ := R.objs.at (by omega) id hid
 obtain ⟨k0, k1⟩ := hR.card hid
 obtain ⟨n, hn⟩ := Int.eq_ofNat_of_zero_le k0
 have hn120 : n < 120 := by omega
 have HK : Hid (zbj S id = zcs n) := by rw [Hid, zbj, hn, Int.toNat_natCast]
 have hc0 := hocell 0 (by omega)
 rw [Nat.add_zero, hn] at hc0
 have HT := Lib.hid T8
 clear hocell hosub hosz how R hR k0 k1 hn T8
 go_enter Tryz.func54, Tryz.ntmps54
 go_wp2_with (go_at_call 88; refine (HT.out _ n hn120).mono ?_; rintro e' w' ⟨c, rfl, hc, nx, rfl⟩; have HC := Lib.hid (hc.ok hn120); clear hc)
 refine bodyPost_ret (zba rfl _ _ _ rfl ?_) rfl ?_
 · go_simp
 · refine ⟨c, by go_simp, ?_, grI⟩
   rw [HK.out]
   exact HC.out.to (b := w.heap.size + 1) grI (Off.plus (Off.base _ _ _ _ (zaa _ _).symm) _) (by first | (go_simp; done) | (go_simp; omega) | (simp only [Sl.b]; go_simp; omega)) (by first | (go_simp; done) | (go_simp; omega) | (simp only [Sl.b]; go_simp; omega)) grI
set_option maxRecDepth 100000 in
set_option maxHeartbeats 1000000 in
theorem zqs (T8 : zgg) (S : St) (V : SV) (w : World) (R : RepSt w V S) (hR : Right S) (id : Int) :
 Calls Tryz.prog 31 #[.agg (stA V S.num), .int .i64 id] w fun e w' => e = .returned (.bool (zam S id)) ∧ Grow w w' := by
 have hN := R.objs.len
 have HR := Lib.hid R
 have HH := Lib.hid hR
 have HT := Lib.hid T8
 by_cases h0 : id < 0
 · have HB : Hid (zam S id = false) := by rw [Hid, zam]; simp; omega
   clear R hR T8
   go_enter Tryz.func31, Tryz.ntmps31
   go_wp2_with fail
   go_ret
   exact ⟨zao HB.out.symm, grI⟩
 · by_cases h1 : (S.objs.length : Int) ≤ id
   · have HB : Hid (zam S id = false) := by rw [Hid, zam]; simp; omega
     clear R hR T8
     go_enter Tryz.func31, Tryz.ntmps31
     go_wp2_with fail
     go_ret
     exact ⟨zao HB.out.symm, grI⟩
   · obtain ⟨d, rfl⟩ := Int.eq_ofNat_of_zero_le (show 0 ≤ id by omega)
     have hd : d < S.objs.length := by omega
     have hd' : (d : Int) < S.objs.length := by omega
     obtain ⟨hob, how, hosz, hosub, hocell⟩ := R.objs.at (by omega) d hd
     have hc3 := hocell 3 (by omega)
     have HB : Hid (zam S d = ((gt (rowAt S.objs d) 3 == 8) && ((zbj S d).kind == 1))) := by rw [Hid, zam]; simp [hd]
     clear hocell hosub R hR h1 h0 T8
     generalize rowAt S.objs d = row at *
     by_cases h3 : gt row 3 = 8
     · have HB2 : Hid (zam S d = ((zbj S d).kind == 1)) := by rw [Hid, HB.out]; simp [h3]
       go_enter Tryz.func31, Tryz.ntmps31
       go_wp2_with (go_at_call 54; refine (z7n HT.out S V _ (HR.out.grow grI) HH.out d hd).mono ?_; rintro e' w' ⟨c, rfl, hc, nx, rfl⟩; have hck := hc.kind; clear hc)
       go_ret
       exact ⟨zao HB2.out.symm, grI⟩
     · have HB2 : Hid (zam S d = false) := by rw [Hid, HB.out]; simp [h3]
       go_enter Tryz.func31, Tryz.ntmps31
       go_wp2_with fail
       go_ret
       exact ⟨zao HB2.out.symm, grI⟩
structure S6 where
 src : Int
 ef : EfV
def S6.arr (a : S6) : Array Value := #[I a.src, I a.ef.op, I a.ef.n, I a.ef.m, I a.ef.who, a.ef.subs.val]
@[go_sem] theorem S6.size (a : S6) : a.arr.size = 6 := rfl
@[go_sem] theorem S6.one (a : S6) : zai a.arr = true := by
 have h := val_oneCell a.ef.subs
 simp only [zai, S6.arr, List.all_toArray, List.all_cons, List.all_nil, h, Bool.and_true]
 rfl
@[go_sem] theorem S6.all (a : S6) : sub a.arr 0 6 = a.arr := rfl
@[go_sem] theorem S6.get0 (c : S6) : c.arr[0]? = some (I c.src) := rfl
@[go_sem] theorem S6.get0' (c : S6) (h : 0 < c.arr.size) : c.arr[0]'h = I c.src := rfl
@[go_sem] theorem S6.get2 (c : S6) : c.arr[2]? = some (I c.ef.n) := rfl
@[go_sem] theorem S6.get2' (c : S6) (h : 2 < c.arr.size) : c.arr[2]'h = I c.ef.n := rfl
@[go_sem] theorem S6.get5 (c : S6) : c.arr[5]? = some c.ef.subs.val := rfl
@[go_sem] theorem S6.get5' (c : S6) (h : 5 < c.arr.size) : c.arr[5]'h = c.ef.subs.val := rfl
@[go_sem] theorem zzm (t : TypeId) (fr : Nat × Nat) : Obj.cells #[Value.int .i64 0, Value.int .i64 0, Value.int .i64 0, Value.int .i64 0, Value.int .i64 0, .slice none 0 0] t fr = .cells (S6.arr ⟨0, ⟨0, 0, 0, 0, .nil⟩⟩) t fr := rfl
def StIs (w : World) (n : Nat) (x : S6) (t : StN) : Prop := x.src = t.src ∧ x.ef.n = t.grp ∧ n ≤ x.ef.subs.b ∧ ∃ who s, RowsV w x.ef.subs 5 [EfV.arr ⟨t.op, t.n, t.m, who, s⟩]
theorem StIs.grow {w w' : World} {n : Nat} {x : S6} {t : StN} (h : StIs w n x t) (g : Grow w w') : StIs w' n x t := by
 obtain ⟨h1, h2, h3, who, s, h4⟩ := h
 exact ⟨h1, h2, h3, who, s, h4.grow g⟩
inductive StsIs (w : World) (n : Nat) : List S6 → List StN → Prop
 | nil : StsIs w n [] []
 | snoc {l : List S6} {m : List StN} {x : S6} {t : StN} : StsIs w n l m → StIs w n x t → StsIs w n (l ++ [x]) (m ++ [t])
theorem StsIs.grow {w w' : World} {n : Nat} {l : List S6} {m : List StN} (h : StsIs w n l m) (g : Grow w w') : StsIs w' n l m := by
 induction h with
 | nil => exact .nil
 | snoc _ h ih => exact .snoc ih (h.grow g)
theorem StIs.kept {own : Nat → Prop} {w w' : World} {n : Nat} {x : S6} {t : StN} (h : StIs w n x t) (g : Kept own w w') (ho : ∀ b, n ≤ b → b < w.heap.size → ¬ own b) : StIs w' n x t := by
 obtain ⟨h1, h2, h3, who, s, h4⟩ := h
 have hb := (h4.at (by decide) (i := 0) (x := _) rfl).1
 exact ⟨h1, h2, h3, who, s, h4.kept g (ho _ h3 hb)⟩
theorem AbOk.kept {own : Nat → Prop} {w w' : World} {n : Nat} {a : AbV} {d : AbN} (h : AbOk w n a d) (g : Kept own w w') (ho : ∀ b, n ≤ b → b < w.heap.size → ¬ own b) : AbOk w' n a d := by
 refine ⟨h.1, fun h5 => ?_⟩
 obtain ⟨h1, h2, who, s, R⟩ := h.2 h5
 have hb := (R.at (by decide) (i := 0) (x := _) rfl).1
 exact ⟨h1, h2, who, s, R.kept g (ho _ h2 hb)⟩
theorem AbsOk.kept {own : Nat → Prop} {w w' : World} {n : Nat} {l : List AbV} {m : List AbN} (h : AbsOk w n l m) (g : Kept own w w') (ho : ∀ b, n ≤ b → b < w.heap.size → ¬ own b) : AbsOk w' n l m := by
 induction h with
 | nil => exact .nil
 | cons h _ ih => exact .cons (h.kept g ho) ih
theorem CardOk.kept {own : Nat → Prop} {w w' : World} {n : Nat} {c : CdV} {d : CardN} (h : CardOk w n c d) (g : Kept own w w') (ho : ∀ b, n ≤ b → b < w.heap.size → ¬ own b) : CardOk w' n c d := by
 obtain ⟨l, h1, h2, h3⟩ := h.abs
 refine ⟨h.kind, h.pw, h.tf, h.says, l, ?_, h2, h3.kept g ho⟩
 cases l with
 | nil => exact ⟨h1.len, h1.cap, fun x hx => by simp at hx, fun i j x hx => by simp at hx⟩
 | cons a l =>
   have hb := (h1.at (by decide) (i := 0) (x := a.arr) rfl).1
   rcases h2 with h2 | h2
   · cases h2
   · exact h1.kept g (ho _ h2 hb)
theorem StsIs.kept {own : Nat → Prop} {w w' : World} {n : Nat} {l : List S6} {m : List StN} (h : StsIs w n l m) (g : Kept own w w') (ho : ∀ x ∈ l, ¬ own x.ef.subs.b) : StsIs w' n l m := by
 induction h with
 | nil => exact .nil
 | snoc _ h ih =>
   refine .snoc (ih (fun x hx => ho x (by simp [hx]))) ?_
   obtain ⟨h1, h2, h3, who, s, h4⟩ := h
   exact ⟨h1, h2, h3, who, s, h4.kept g (ho _ (by simp))⟩
theorem StsIs.lt {w : World} {n : Nat} {l : List S6} {m : List StN} (h : StsIs w n l m) : ∀ x ∈ l, x.ef.subs.b < w.heap.size := by
 induction h with
 | nil => intro x hx; cases hx
 | snoc _ h ih =>
   intro x hx
   rcases List.mem_append.1 hx with hx | hx
   · exact ih x hx
   · obtain ⟨_, _, _, who, s, h4⟩ := h
     obtain rfl : x = _ := by simpa using hx
     exact (h4.at (by decide) (i := 0) (x := _) rfl).1
@[go_sem] theorem AbV.sub9 (a : AbV) : sub a.arr 9 5 = a.ef.arr := rfl
@[go_sem] theorem z61 (w : World) (c : CdV) : (Instr.field 99 (.agg c.arr) 7).run Tryz.prog w = .ok c.abs.val w := by
 obtain ⟨a, b, f, c0, c1, c2, c3, c4, c5, p, t, s, l⟩ := c; cases l <;> kernel_rfl
end Go.Proofs.YthfalocligkamaaGreatDoor
