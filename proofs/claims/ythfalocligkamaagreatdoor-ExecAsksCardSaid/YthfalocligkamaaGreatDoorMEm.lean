/- An emitter, as it stands in memory. -/
import Derived.Test.YthfalocligkamaaGreatDoorMDo
import Derived.Test.YthfalocligkamaaGreatDoorMKept
import Derived.Test.YthfalocligkamaaGreatDoorMRanges
import Derived.Test.YthfalocligkamaaGreatDoorMKnow
import Derived.Test.YthfalocligkamaaGreatDoorMMade
import Derived.Deep.RegionWith
import Derived.Deep.RegionHeld3
import Derived.Test.YthfalocligkamaaGreatDoorLay
namespace Go.Proofs.YthfalocligkamaaGreatDoor
open Go Go.RowKit
@[go_sem ↓] theorem z4b (ρ : Operand → Value) (dst : Option Tmp) (x y : Operand) (ty : TypeId) (pos : String) (after : Array Edge) (guard : Option (Nat × Bool)) :
 execOp ρ { dst, op := .store 62 x y, type := ty, pos, after, guard } = zaz 62 (ρ x) (ρ y) := rfl
@[go_sem] theorem zto (w : World) (b o : Nat) (s : Sl) (h : (w.cell? ⟨b, o, none⟩).isSome = true) (hf : w.frozen? ⟨b, o, none⟩ = false) : (zaz 62 (.pointer (some ⟨b, o, none⟩)) s.val).run Tryz.prog w = .ok .skip (w.setCell ⟨b, o, none⟩ s.val) :=
 zcf w b o 62 s (by kernel_rfl) h hf
@[go_sem] theorem ztq (w : World) (b o sb so n c : Nat) (h : (w.cell? ⟨b, o, none⟩).isSome = true) (hf : w.frozen? ⟨b, o, none⟩ = false) : (zaz 62 (.pointer (some ⟨b, o, none⟩)) (.slice (some ⟨sb, so, none⟩) n c)).run Tryz.prog w = .ok .skip (w.setCell ⟨b, o, none⟩ (.slice (some ⟨sb, so, none⟩) n c)) :=
 zcf w b o 62 (.mk sb so n c) (by kernel_rfl) h hf
theorem RepSt.off {b : Nat} {W W' : World} {V : SV} {S : St} (h : RepSt W V S) (g : Off b W W') (hn : ¬ V.uses b) : RepSt W' V S :=
 ⟨h.objs.off g (fun hl e => hn (by rw [← e]; exact Or.inl (zbn h.objs hl))), fun z hz => (h.list z hz).off g (fun hl e => hn (by rw [← e]; exact Or.inr ⟨z, hz, zbs (h.list z hz) hl⟩))⟩
end Go.Proofs.YthfalocligkamaaGreatDoor
namespace Go.Proofs.YthfalocligkamaaGreatDoor
open Go Go.RowKit Go.Shelf
structure Em where
 now : St
 draws : List Int
 evs : List (List Int)
 pend : List (List Int)
 err : Int
def emR (sd se sp : Sl) (n : Int) : Array Value := #[sd.val, se.val, sp.val, errV n]
@[go_sem] theorem yd5 (sd se sp : Sl) (n : Int) : (emR sd se sp n).size = 4 := rfl
@[go_sem] theorem emR_0 (sd se sp : Sl) (n : Int) : (emR sd se sp n)[0]? = some sd.val := rfl
@[go_sem] theorem emR_1 (sd se sp : Sl) (n : Int) : (emR sd se sp n)[1]? = some se.val := rfl
@[go_sem] theorem emR_2 (sd se sp : Sl) (n : Int) : (emR sd se sp n)[2]? = some sp.val := rfl
@[go_sem] theorem emR_3 (sd se sp : Sl) (n : Int) : (emR sd se sp n)[3]? = some (errV n) := rfl
def zht (b : Nat) (V : SV) (sd se sp : Sl) (k : Nat) : Prop := k = b ∨ V.uses k ∨ sd.owns k ∨ se.owns k ∨ sp.owns k
structure RepE (w : World) (b : Nat) (V : SV) (sd se sp : Sl) (E : Em) : Prop where
 host : Host w b V E.now (emR sd se sp E.err)
 drs : Ints w sd E.draws
 evs : Rows' w se 6 E.evs
 evR : Room w se 6
 pend : Rows' w sp 3 E.pend
 pendR : Room w sp 3
 inD : ∀ k, sd.owns k → k < w.heap.size
 inE : ∀ k, se.owns k → k < w.heap.size
 inP : ∀ k, sp.owns k → k < w.heap.size
 apD : ¬ sd.owns b
 apE : ¬ se.owns b
 apP : ¬ sp.owns b
 apVE : ∀ k, V.uses k → ¬ se.owns k ∧ ¬ sp.owns k
 apDE : ∀ k, sd.owns k → ¬ se.owns k ∧ ¬ sp.owns k
 apEP : ∀ k, se.owns k → ¬ sp.owns k
theorem RepE.own_lt {w : World} {b : Nat} {V : SV} {sd se sp : Sl} {E : Em} (h : RepE w b V sd se sp E) : ∀ k, zht b V sd se sp k → k < w.heap.size := fun k hk => by
 rcases hk with rfl | h1 | h1 | h1 | h1
 · exact h.host.lt
 · exact h.host.in' k h1
 · exact h.inD k h1
 · exact h.inE k h1
 · exact h.inP k h1
theorem zwu {own : Nat → Prop} {w w' : World} {b : Nat} {V : SV} {S : St} {rest : Array Value} (h : Host w b V S rest) (g : Kept own w w') (nb : ¬ own b) (nv : ∀ k, V.uses k → ¬ own k) : Host w' b V S rest :=
 ⟨by rw [g.blk b h.lt nb, h.blk], by rw [g.free b h.lt nb]; exact h.free, h.rep.kept g nv, h.apart, fun k hk => Nat.lt_of_lt_of_le (h.in' k hk) g.size⟩
theorem znu {w : World} {s : Sl} {k : Nat} {l : List (List Int)} (R : Rows' w s k l) (h : 0 < l.length) : s.owns s.b := by
 cases s with
 | nil => have := R.len; simp [Sl.n] at this; omega
 | mk => rfl
theorem RepE.kept {own : Nat → Prop} {w w' : World} {b : Nat} {V : SV} {sd se sp : Sl} {E : Em} (h : RepE w b V sd se sp E) (g : Kept own w w') (hn : ∀ k, zht b V sd se sp k → ¬ own k) : RepE w' b V sd se sp E where
 host := zwu h.host g (hn b (.inl rfl)) (fun k hk => hn k (.inr (.inl hk)))
 drs := h.drs.kept g (fun hl => hn _ (.inr (.inr (.inl (zbs h.drs hl)))))
 evs := h.evs.kept g (fun hl => hn _ (.inr (.inr (.inr (.inl (znu h.evs hl))))))
 evR := h.evR.kept g (fun k hk => hn k (.inr (.inr (.inr (.inl hk)))))
 pend := h.pend.kept g (fun hl => hn _ (.inr (.inr (.inr (.inr (znu h.pend hl))))))
 pendR := h.pendR.kept g (fun k hk => hn k (.inr (.inr (.inr (.inr hk)))))
 inD := fun k hk => Nat.lt_of_lt_of_le (h.inD k hk) g.size
 inE := fun k hk => Nat.lt_of_lt_of_le (h.inE k hk) g.size
 inP := fun k hk => Nat.lt_of_lt_of_le (h.inP k hk) g.size
 apD := h.apD
 apE := h.apE
 apP := h.apP
 apVE := h.apVE
 apDE := h.apDE
 apEP := h.apEP
def Emt (w : World) (b : Nat) (own : Nat → Prop) (E : Em) : Prop := ∃ V sd se sp, RepE w b V sd se sp E ∧ ∀ k, own k ↔ zht b V sd se sp k
theorem Emt.lt {w : World} {b : Nat} {own : Nat → Prop} {E : Em} (h : Emt w b own E) : ∀ k, own k → k < w.heap.size := fun k hk => by
 obtain ⟨V, sd, se, sp, hr, ho⟩ := h
 exact hr.own_lt k ((ho k).1 hk)
theorem Emt.kept {own o2 : Nat → Prop} {w w' : World} {b : Nat} {E : Em} (h : Emt w b own E) (g : Kept o2 w w') (hn : ∀ k, own k → ¬ o2 k) : Emt w' b own E := by
 obtain ⟨V, sd, se, sp, hr, ho⟩ := h
 exact ⟨V, sd, se, sp, hr.kept g (fun k hk => hn k ((ho k).2 hk)), ho⟩
theorem Emt.grow {own : Nat → Prop} {w w' : World} {b : Nat} {E : Em} (h : Emt w b own E) (g : Grow w w') : Emt w' b own E := h.kept (g.kept (fun _ => False)) (fun _ _ h => h)
def Em.fail (E : Em) (n : Int) : Em := if E.err = 0 then { E with err := n } else E
def Em.do1 (E : Em) (e : List Int) : Em :=
 if E.err ≠ 0 then E
 else match zen E.now e with
  | .error n => { E with err := n }
  | .ok S => if E.evs.length < 65536 then { E with now := S, evs := E.evs ++ [e] } else { E with now := S, err := 5 }
def Em.dos (E : Em) (l : List (List Int)) : Em := l.foldl Em.do1 E
def Em.set (E : Em) (e : List Int) (was n : Int) : Em :=
 if was = n then E.fail (evCheck ((e.set 3 was).set 4 n)) else E.do1 ((e.set 3 was).set 4 n)
def Em.setObj (E : Em) (id f n : Int) : Em :=
 if E.err ≠ 0 then E
 else if evCheck [2, id, f, 0, 0, 0] ≠ 0 ∨ (E.now.objs.length : Int) ≤ id then E.do1 [2, id, f, 0, 0, 0]
 else E.set [2, id, f, 0, 0, 0] (gt (rowAt E.now.objs id.toNat) f.toNat) n
def Em.setGame (E : Em) (f n : Int) : Em :=
 if E.err ≠ 0 then E
 else if evCheck [4, 0, f, 0, 0, 0] ≠ 0 then E.do1 [4, 0, f, 0, 0, 0]
 else E.set [4, 0, f, 0, 0, 0] (E.now.num (18 + f.toNat)) n
end Go.Proofs.YthfalocligkamaaGreatDoor
namespace Go.Proofs.YthfalocligkamaaGreatDoor
open Go Go.RowKit Go.Shelf
@[go_sem ↓] theorem z5o (ρ : Operand → Value) (dst : Option Tmp) (x : Operand) (ty : TypeId) (pos : String) (after : Array Edge) (guard : Option (Nat × Bool)) :
 execOp ρ { dst, op := .load 82 x, type := ty, pos, after, guard } = za3 82 (ρ x) := rfl
@[go_sem ↓] theorem z4d (ρ : Operand → Value) (dst : Option Tmp) (x y : Operand) (ty : TypeId) (pos : String) (after : Array Edge) (guard : Option (Nat × Bool)) :
 execOp ρ { dst, op := .store 82 x y, type := ty, pos, after, guard } = zaz 82 (ρ x) (ρ y) := rfl
@[go_sem] theorem zuz (w : World) (b o : Nat) (h : o + 41 ≤ (w.blk b).size) : (za3 82 (.pointer (some ⟨b, o, none⟩))).run Tryz.prog w = .ok (.value (.agg (sub (w.blk b) o 41))) w :=
 zaw w b o 82 41 (by kernel_rfl) (by kernel_rfl) h (by omega)
@[go_sem] theorem zts (w : World) (b : Nat) (cs : Array Value) (h : (w.blk b).size = 41) (hc : cs.size = 41) (h1 : zai cs = true) (hf : w.free b = true) : (zaz 82 (.pointer (some ⟨b, 0, none⟩)) (.agg cs)).run Tryz.prog w = .ok .skip (w.setRow b cs) :=
 zax w b 82 41 _ (by kernel_rfl) h hc (by omega) hf h1
theorem RepE.errCell {w : World} {b : Nat} {V : SV} {sd se sp : Sl} {E : Em} (h : RepE w b V sd se sp E) : w.cell? ⟨b, 40, none⟩ = some (errV E.err) := by
 rw [zaf h.host.free h.host.blk, show 40 = 37 + 3 from rfl, zei]
 rfl
set_option maxRecDepth 100000 in
theorem zas (w : World) (b : Nat) (own : Nat → Prop) (E : Em) (R : Emt w b own E) :
 Calls Tryz.prog 17 #[.pointer (some ⟨b, 0, none⟩)] w fun e w' => e = .returned (errV E.err) ∧ Grow w w' := by
 obtain ⟨V, sd, se, sp, hr, ho⟩ := R
 have hc := hr.errCell
 have hlt := hr.host.lt
 clear hr ho
 generalize errV E.err = v at *
 go_enter Tryz.func17, Tryz.ntmps17
 go_wp2_with fail
 go_ret
 exact ⟨rfl, grI⟩
theorem zs8 (w : World) (sl : Sl) (l : List Int) (R : Ints w sl l) : Calls Tryz.prog 41 #[sl.val] w fun e w' => e = .returned (errV (if 4096 < l.length then 19 else 0)) ∧ Grow w w' := by
 have hn := R.len
 clear R
 by_cases h : 4096 < l.length
 · rw [if_pos h]
   go_enter Tryz.func41, Tryz.ntmps41
   go_wp2_with fail
   go_ret
   exact ⟨rfl, grI⟩
 · rw [if_neg h]
   go_enter Tryz.func41, Tryz.ntmps41
   go_wp2_with fail
   go_ret
   exact ⟨rfl, grI⟩
end Go.Proofs.YthfalocligkamaaGreatDoor
namespace Go.Proofs.YthfalocligkamaaGreatDoor
open Go Go.RowKit Go.Shelf
def EPost (w : World) (b : Nat) (own : Nat → Prop) (E : Em) (w' : World) : Prop := ∃ own', Emt w' b own' E ∧ Kept own w w' ∧ ∀ k, own' k → own k ∨ (w.heap.size ≤ k ∧ k < w'.heap.size)
theorem EPost.of_grow {w w' : World} {b : Nat} {own : Nat → Prop} {E : Em} (h : Emt w b own E) (g : Grow w w') : EPost w b own E w' := ⟨own, h.grow g, g.kept own, fun _ h => Or.inl h⟩
theorem EPost.then {w w1 w2 : World} {b : Nat} {own own1 : Nat → Prop} {E2 : Em} (K1 : Kept own w w1) (O1 : ∀ k, own1 k → own k ∨ (w.heap.size ≤ k ∧ k < w1.heap.size)) (h : EPost w1 b own1 E2 w2) : EPost w b own E2 w2 := by
 obtain ⟨own2, R2, K2, O2⟩ := h
 refine ⟨own2, R2, K1.trans K2 (fun k hk h => ?_), fun k hk => ?_⟩
 · rcases O1 k h with h1 | h1
   · exact h1
   · omega
 · rcases O2 k hk with h1 | h1
   · rcases O1 k h1 with h2 | h2
     · exact Or.inl h2
     · exact Or.inr ⟨h2.1, Nat.lt_of_lt_of_le h2.2 K2.size⟩
   · exact Or.inr ⟨Nat.le_trans K1.size h1.1, h1.2⟩
theorem EPost.trans {w w1 w2 : World} {b : Nat} {own : Nat → Prop} {E1 E2 : Em} (h : EPost w b own E1 w1) (g : ∀ own1, Emt w1 b own1 E1 → EPost w1 b own1 E2 w2) : EPost w b own E2 w2 := by
 obtain ⟨own1, R1, K1, O1⟩ := h
 exact EPost.then K1 O1 (g own1 R1)
theorem EPost.low {w w1 w2 : World} {b : Nat} {own : Nat → Prop} {E : Em} (g : Grow w w1) (h : EPost w1 b own E w2) : EPost w b own E w2 := EPost.then (g.kept own) (fun _ h => Or.inl h) h
theorem EPost.more {w w1 w2 : World} {b : Nat} {own : Nat → Prop} {E : Em} (h : EPost w b own E w1) (g : Grow w1 w2) : EPost w b own E w2 := h.trans fun _ R => .of_grow R g
@[go_sem] theorem yig (sd se sp : Sl) (n : Int) (h : 0 < (emR sd se sp n).size) : (emR sd se sp n)[0]'h = sd.val := rfl
@[go_sem] theorem yih (sd se sp : Sl) (n : Int) (h : 1 < (emR sd se sp n).size) : (emR sd se sp n)[1]'h = se.val := rfl
@[go_sem] theorem yii (sd se sp : Sl) (n : Int) (h : 2 < (emR sd se sp n).size) : (emR sd se sp n)[2]'h = sp.val := rfl
@[go_sem] theorem yij (sd se sp : Sl) (n : Int) (h : 3 < (emR sd se sp n).size) : (emR sd se sp n)[3]'h = errV n := rfl
theorem z5f (V : SV) (num : Nat → Int) (sd se sp : Sl) (n : Int) : (hoA V num (emR sd se sp n))[37]? = some sd.val := by rw [show 37 = 37 + 0 from rfl, zei]; rfl
@[go_sem] theorem yg5 (V : SV) (num : Nat → Int) (sd se sp s : Sl) (n : Int) : (hoA V num (emR sd se sp n)).setIfInBounds 38 s.val = hoA V num (emR sd s sp n) := by rw [show 38 = 37 + 1 from rfl, zcc]; rfl
@[go_sem] theorem yg6 (V : SV) (num : Nat → Int) (sd se sp s : Sl) (n : Int) : (hoA V num (emR sd se sp n)).setIfInBounds 39 s.val = hoA V num (emR sd se s n) := by rw [show 39 = 37 + 2 from rfl, zcc]; rfl
theorem zlr (V : SV) (num : Nat → Int) (sd se sp : Sl) (n m : Int) : (hoA V num (emR sd se sp n)).setIfInBounds 40 (errV m) = hoA V num (emR sd se sp m) := by rw [show 40 = 37 + 3 from rfl, zcc]; rfl
theorem RepE.setErr {w : World} {b : Nat} {V : SV} {sd se sp : Sl} {E : Em} (h : RepE w b V sd se sp E) (m : Int) : RepE (w.setRow b (hoA V E.now.num (emR sd se sp m))) b V sd se sp { E with err := m } := by
 have k1 : Kept (fun k => k = b) w (w.setRow b (hoA V E.now.num (emR sd se sp m))) := (Kept.refl _ _).setRow b _ (fun _ => rfl)
 refine ⟨⟨by rw [zer _ _ _ _ h.host.free, if_pos rfl], by rw [zd1]; exact h.host.free, h.host.rep.kept k1 (fun k hk e => h.host.apart (by have e : k = b := e; rw [← e]; exact hk)), h.host.apart, fun k hk => by rw [size_setRow]; exact h.host.in' k hk⟩, ?_, ?_, ?_, ?_, ?_, ?_, ?_, ?_, h.apD, h.apE, h.apP, h.apVE, h.apDE, h.apEP⟩
 · exact h.drs.kept k1 (fun hl e => h.apD (by have e : sd.b = b := e; rw [← e]; exact zbs h.drs hl))
 · exact h.evs.kept k1 (fun hl e => h.apE (by have e : se.b = b := e; rw [← e]; exact zbn h.evs hl))
 · exact h.evR.kept k1 (fun k hk e => h.apE (by have e : k = b := e; rw [← e]; exact hk))
 · exact h.pend.kept k1 (fun hl e => h.apP (by have e : sp.b = b := e; rw [← e]; exact zbn h.pend hl))
 · exact h.pendR.kept k1 (fun k hk e => h.apP (by have e : k = b := e; rw [← e]; exact hk))
 · exact fun k hk => by rw [size_setRow]; exact h.inD k hk
 · exact fun k hk => by rw [size_setRow]; exact h.inE k hk
 · exact fun k hk => by rw [size_setRow]; exact h.inP k hk
theorem Emt.setErr {w w' : World} {b : Nat} {own : Nat → Prop} {V : SV} {sd se sp : Sl} {E : Em} (h : RepE w b V sd se sp E) (ho : ∀ k, own k ↔ zht b V sd se sp k) (m : Int) (g : Grow (w.setRow b (hoA V E.now.num (emR sd se sp m))) w') : EPost w b own { E with err := m } w' := by
 have k1 : Kept own w (w.setRow b (hoA V E.now.num (emR sd se sp m))) := (Kept.refl _ _).setRow b _ (fun _ => (ho b).2 (Or.inl rfl))
 exact ⟨own, ⟨V, sd, se, sp, (h.setErr m).kept (g.kept (fun _ => False)) (fun _ _ h => h), ho⟩, k1.trans (o2 := fun _ => False) (g.kept _) (fun _ _ h => h.elim), fun k hk => Or.inl hk⟩
theorem zap {n : Int} (h : n ≠ 0) : errV n = .iface 66 (.int .i64 n) := by unfold errV; rw [if_neg h]
set_option maxRecDepth 100000 in
set_option maxHeartbeats 2000000 in
theorem ze2 (w : World) (b : Nat) (own : Nat → Prop) (E : Em) (R : Emt w b own E) (n : Int) :
 Calls Tryz.prog 26 #[.pointer (some ⟨b, 0, none⟩), errV n] w fun e w' => e = .returned (.tuple #[]) ∧ EPost w b own (E.fail n) w' := by
 have HR0 := Lib.hid R
 obtain ⟨V, sd, se, sp, hr, ho⟩ := R
 have hH := hr.host
 have hcell := zaf (hH).free (hH).blk; have hfz := zah (hH).free; have hset := zag (hH).free (hH).blk; have hblk := (hH).blk; have hfree := (hH).free; have hlt := (hH).lt; have hne1 : ¬ b = (w).heap.size := (by omega); have hne2 : ¬ (w).heap.size = b := (by omega)
 have hc40 := hr.errCell
 have HR := Lib.hid hr
 have HO := Lib.hid ho
 clear hr ho hH hblk
 unfold Em.fail
 by_cases he : E.err = 0
 · rw [he, za4] at hc40
   have hs := hset 40 (errV n)
   rw [zlr] at hs
   rw [if_pos he]
   clear hset hcell he
   by_cases hn : n = 0
   · subst hn
     rw [za4] at hs ⊢
     go_enter Tryz.func26, Tryz.ntmps26
     go_wp2_with fail
     go_end0
     exact ⟨rfl, Emt.setErr HR.out HO.out _ grI⟩
   · rw [zap hn] at hs ⊢
     go_enter Tryz.func26, Tryz.ntmps26
     go_wp2_with fail
     go_end0
     exact ⟨rfl, Emt.setErr HR.out HO.out _ grI⟩
 · rw [zap he] at hc40
   rw [if_neg he]
   clear hset hcell he
   generalize errV n = v at *
   go_enter Tryz.func26, Tryz.ntmps26
   go_wp2_with fail
   go_end0
   exact ⟨rfl, .of_grow HR0.out grI⟩
def Em.show (E : Em) (id p : Int) : Em := if E.err ≠ 0 then E else E.dos (showEv E.now id p)
def Em.must (E : Em) (ok : Bool) (n : Int) : Em := if E.err ≠ 0 then E else if ok = true then E else { E with err := n }
set_option maxRecDepth 100000 in
set_option maxHeartbeats 2000000 in
theorem ziq (w : World) (b : Nat) (own : Nat → Prop) (E : Em) (R : Emt w b own E) (ok : Bool) (n : Int) (hn : n ≠ 0) :
 Calls Tryz.prog 106 #[.pointer (some ⟨b, 0, none⟩), .bool ok, .int .i64 n] w fun e w' => e = .returned (.bool (decide (E.err = 0) && ok)) ∧ EPost w b own (E.must ok n) w' := by
 have HR0 := Lib.hid R
 have HE := Lib.hid (fun W (g : Grow w W) => zas W b own E (R.grow g))
 obtain ⟨V, sd, se, sp, hr, ho⟩ := R
 have hH := hr.host
 have hcell := zaf (hH).free (hH).blk; have hfz := zah (hH).free; have hset := zag (hH).free (hH).blk; have hblk := (hH).blk; have hfree := (hH).free; have hlt := (hH).lt; have hne1 : ¬ b = (w).heap.size := (by omega); have hne2 : ¬ (w).heap.size = b := (by omega)
 have hc40 := hr.errCell
 have HR := Lib.hid hr
 have HO := Lib.hid ho
 clear hr ho hH hblk
 unfold Em.must
 by_cases he : E.err = 0
 · rw [he, za4] at HE
   have hs := hset 40 (errV n)
   rw [zlr, zap hn] at hs
   rw [if_neg (by rw [he]; simp), he]
   clear hset hcell he
   generalize errV E.err = v40 at *
   cases ok with
   | true =>
     go_enter Tryz.func106, Tryz.ntmps106
     go_wp2_with (go_at_call 17; refine (HE.out _ grI).mono ?_; rintro e' w' ⟨rfl, nx, rfl⟩)
     go_ret
     exact ⟨rfl, .of_grow HR0.out grI⟩
   | false =>
     go_enter Tryz.func106, Tryz.ntmps106
     go_wp2_with (go_at_call 17; refine (HE.out _ grI).mono ?_; rintro e' w' ⟨rfl, nx, rfl⟩)
     go_ret
     exact ⟨rfl, Emt.setErr HR.out HO.out n grI⟩
 · rw [zap he] at HE
   rw [if_pos he, decide_eq_false he]
   clear hset hcell he hc40
   go_enter Tryz.func106, Tryz.ntmps106
   go_wp2_with (go_at_call 17; refine (HE.out _ grI).mono ?_; rintro e' w' ⟨rfl, nx, rfl⟩)
   go_ret
   exact ⟨rfl, .of_grow HR0.out grI⟩
def restL : List Int := [4, 5, 6, 7, 8, 9, 10, 11, 12]
structure GlobE (w : World) (own : Nat → Prop) : Prop where
 base : Glob w
 lt : 1 < w.heap.size
 rest : w.blk 1 = cellsOf restL
 n0 : ¬ own 1
 n1 : ¬ own 0
 n2 : ¬ own 2
 n3 : ¬ own 3
theorem GlobE.kept {own own' : Nat → Prop} {w w' : World} (h : GlobE w own) (k : Kept own w w') (o : ∀ j, own' j → own j ∨ w.heap.size ≤ j) : GlobE w' own' := by
 obtain ⟨s1, s2, s3⟩ := h.base.size
 have hs := k.size
 have hl := h.lt
 refine ⟨⟨⟨by omega, by omega, by omega⟩, by rw [k.blk _ s1 h.n1, h.base.resting], by rw [k.blk _ s2 h.n2, h.base.flag], by rw [k.blk _ s3 h.n3, h.base.any]⟩, by omega, by rw [k.blk _ hl h.n0, h.rest], fun x => ?_, fun x => ?_, fun x => ?_, fun x => ?_⟩
 · rcases o _ x with y | y
   · exact h.n0 y
   · omega
 · rcases o _ x with y | y
   · exact h.n1 y
   · omega
 · rcases o _ x with y | y
   · exact h.n2 y
   · omega
 · rcases o _ x with y | y
   · exact h.n3 y
   · omega
theorem GlobE.grow {own : Nat → Prop} {w w' : World} (h : GlobE w own) (g : Grow w w') : GlobE w' own := h.kept (g.kept own) (fun _ h => Or.inl h)
structure Mine (W : World) (own : Nat → Prop) (q : Nat) (cs : Array Value) : Prop where
 lt : q < W.heap.size
 own : ¬ own q
 blk : W.blk q = cs
 free : W.free q = true
structure Turn (W : World) (b : Nat) (own : Nat → Prop) (E : Em) (wk : World) (ownk : Nat → Prop) : Prop where
 em : Emt wk b ownk E
 kept : Kept own W wk
 own : ∀ j, ownk j → own j ∨ (W.heap.size ≤ j ∧ j < wk.heap.size)
theorem Turn.first {W : World} {b : Nat} {own : Nat → Prop} {E : Em} (h : Emt W b own E) : Turn W b own E W own := ⟨h, Kept.refl _ _, fun _ h => Or.inl h⟩
theorem Turn.step {W wk wk' w2 : World} {b : Nat} {own ownk : Nat → Prop} {E E2 : Em} (h : Turn W b own E wk ownk) (g : Grow wk wk') (e : EPost wk' b ownk E2 w2) : ∃ own2, Turn W b own E2 w2 own2 := by
 obtain ⟨own2, r, k, o⟩ := EPost.then h.kept h.own (EPost.low g e)
 exact ⟨own2, r, k, o⟩
theorem Turn.grow {W wk wk' : World} {b : Nat} {own ownk : Nat → Prop} {E : Em} (h : Turn W b own E wk ownk) (g : Grow wk wk') : Turn W b own E wk' ownk :=
 ⟨h.em.grow g, h.kept.trans (o2 := fun _ => False) (g.kept _) (fun _ _ h => h.elim), fun j hj => (h.own j hj).imp id (fun x => ⟨x.1, Nat.lt_of_lt_of_le x.2 g.size⟩)⟩
theorem Turn.post {W wk w : World} {b : Nat} {own ownk : Nat → Prop} {E : Em} (h : Turn W b own E wk ownk) (g : Grow w W) : EPost w b own E wk := EPost.low g ⟨ownk, h.em, h.kept, h.own⟩
theorem Turn.mine {W wk : World} {b q : Nat} {own ownk : Nat → Prop} {E : Em} {cs : Array Value} (h : Turn W b own E wk ownk) (m : Mine W own q cs) : Mine wk ownk q cs :=
 ⟨Nat.lt_of_lt_of_le m.lt h.kept.size, fun x => by
  rcases h.own q x with y | y
  · exact m.own y
  · have := m.lt; omega, by rw [h.kept.blk q m.lt m.own, m.blk], by rw [h.kept.free q m.lt m.own, m.free]⟩
theorem Turn.glob {W wk : World} {b : Nat} {own ownk : Nat → Prop} {E : Em} (h : Turn W b own E wk ownk) (g : GlobE W own) : GlobE wk ownk := g.kept h.kept (fun j hj => (h.own j hj).imp id And.left)
end Go.Proofs.YthfalocligkamaaGreatDoor
namespace Go.Proofs.YthfalocligkamaaGreatDoor
open Go Go.RowKit Go.Shelf
def St0 : St := ⟨[], fun _ => [], fun _ => 0⟩
def Em.state (E : Em) : St := if E.err ≠ 0 then St0 else E.now
theorem zk9 (w : World) : RepSt w SV.zero St0 := ⟨Rows'.nil _ _, fun z _ => ⟨rfl, Nat.le_refl _, fun i hi => by cases hi⟩⟩
set_option maxRecDepth 100000 in
set_option maxHeartbeats 2000000 in
theorem zsh (w : World) (b : Nat) (own : Nat → Prop) (E : Em) (R : Emt w b own E) (hS : Small E.now) :
 Calls Tryz.prog 18 #[.pointer (some ⟨b, 0, none⟩)] w fun e w' => ∃ V', e = .returned (.agg (stA V' E.state.num)) ∧ RepSt w' V' E.state ∧ (∀ k, V'.uses k → w.heap.size ≤ k ∧ k < w'.heap.size) ∧ Grow w w' := by
 have HE := Lib.hid (fun W (g : Grow w W) => zas W b own E (R.grow g))
 obtain ⟨V, sd, se, sp, hr, ho⟩ := R
 have hH := hr.host
 have hcell := zaf (hH).free (hH).blk; have hfz := zah (hH).free; have hset := zag (hH).free (hH).blk; have hblk := (hH).blk; have hfree := (hH).free; have hlt := (hH).lt; have hne1 : ¬ b = (w).heap.size := (by omega); have hne2 : ¬ (w).heap.size = b := (by omega)
 have HR := Lib.hid hr.host.rep
 have HS := Lib.hid hS
 clear hr ho hH hS
 unfold Em.state
 by_cases he : E.err = 0
 · rw [he, za4] at HE
   rw [if_neg (by rw [he]; simp)]
   clear he
   generalize E.err = er at *
   go_enter Tryz.func18, Tryz.ntmps18
   go_wp2_with (first | (go_at_call 17; refine (HE.out _ grI).mono ?_; rintro e' w' ⟨rfl, nx, rfl⟩) | (go_at_call 39; refine (zkr E.now V _ (HR.out.grow grI) HS.out).mono ?_; rintro e' w' ⟨V', rfl, hR', hu, nx, rfl⟩; have HR' := Lib.hid hR'; have HU := Lib.hid hu; clear hR' hu))
   refine bodyPost_ret (zhi rfl _ _ (w.heap.size) rfl ?_) rfl ?_
   · go_simp
   · have h1 := HR'.out
     refine ⟨V', by go_simp, ?_, fun k hk => ?_, grI⟩
     · (try simp only [zae] at h1); (try simp only [zad] at h1)
       exact h1.off (b := w.heap.size) (by repeat (first | exact Off.base _ _ _ _ rfl | refine Off.plus ?_ _ | refine Off.alloc ?_ _)) (fun hb => by have := (HU.out _ hb).1; simp only [zac, zaa] at this; omega)
     · have h2 := HU.out k hk
       simp only [zac, zaa, Ext.and, Array.size_append] at h2 ⊢
       exact ⟨by omega, by omega⟩
 · rw [zap he] at HE
   rw [if_pos he]
   clear he
   go_enter Tryz.func18, Tryz.ntmps18
   go_wp2_with (go_at_call 17; refine (HE.out _ grI).mono ?_; rintro e' w' ⟨rfl, nx, rfl⟩)
   refine bodyPost_ret (zhi rfl _ _ (w.heap.size) rfl ?_) rfl ?_
   · go_simp
   · refine ⟨SV.zero, by go_simp; rfl, zk9 _, fun k hk => ?_, grI⟩
     rcases hk with h | ⟨z, _, h⟩ <;> exact h.elim
theorem zi8 {E : Em} (h : E.err ≠ 0) : ∀ l : List (List Int), E.dos l = E
 | [] => rfl
 | e :: l => by
   show (E.do1 e).dos l = E
   have : E.do1 e = E := by unfold Em.do1; rw [if_pos h]
   rw [this]
   exact zi8 h l
theorem z0w (E : Em) (l : List (List Int)) (k : Nat) (hk : k < l.length) : E.dos (l.drop k) = (E.do1 (rowAt l k)).dos (l.drop (k + 1)) := by
 rw [List.drop_eq_getElem_cons hk]
 have : rowAt l k = l[k] := by simp [rowAt, hk]
 rw [this]; rfl
theorem RepE.done {w w' : World} {b : Nat} {V V' : SV} {sd se sp : Sl} {E : Em} {S' : St} (h : RepE w b V sd se sp E) (hH : Host w' b V' S' (emR sd se sp E.err)) (g : Kept (fun k => k = b) w w') (hu : ∀ k, V'.uses k → V.uses k ∨ (w.heap.size ≤ k ∧ k < w'.heap.size)) :
 RepE w' b V' sd se sp { E with now := S' } := by
 refine ⟨hH, ?_, ?_, ?_, ?_, ?_, ?_, ?_, ?_, h.apD, h.apE, h.apP, fun k hk => ?_, h.apDE, h.apEP⟩
 · exact h.drs.kept g (fun hl e => h.apD (by have e : sd.b = b := e; rw [← e]; exact zbs h.drs hl))
 · exact h.evs.kept g (fun hl e => h.apE (by have e : se.b = b := e; rw [← e]; exact zbn h.evs hl))
 · exact h.evR.kept g (fun k hk e => h.apE (by have e : k = b := e; rw [← e]; exact hk))
 · exact h.pend.kept g (fun hl e => h.apP (by have e : sp.b = b := e; rw [← e]; exact zbn h.pend hl))
 · exact h.pendR.kept g (fun k hk e => h.apP (by have e : k = b := e; rw [← e]; exact hk))
 · exact fun k hk => Nat.lt_of_lt_of_le (h.inD k hk) g.size
 · exact fun k hk => Nat.lt_of_lt_of_le (h.inE k hk) g.size
 · exact fun k hk => Nat.lt_of_lt_of_le (h.inP k hk) g.size
 · rcases hu k hk with h1 | h1
   · exact h.apVE k h1
   · exact ⟨fun h2 => by have := h.inE k h2; omega, fun h2 => by have := h.inP k h2; omega⟩
structure EmStep (w : World) (b : Nat) (V : SV) (sd se sp : Sl) (E : Em) (e : List Int) (w' : World) (s' : Sl) : Prop where
 blk : w'.blk b = hoA V E.now.num (emR sd se sp E.err)
 free : w'.free b = true
 evs : Rows' w' s' 6 (E.evs ++ [e])
 evR : Room w' s' 6
 kept : Kept se.owns w w'
 own : ∀ k, s'.owns k → se.owns k ∨ (w.heap.size ≤ k ∧ k < w'.heap.size)
theorem z6z {w W1 w' : World} {b : Nat} {V : SV} {sd se sp s' : Sl} {E : Em} {e : List Int} (R : RepE w b V sd se sp E) (he : e.length = 6) (g : Grow w W1) (c1 : Cells w' s' 6 (zea E.evs ++ zea [e])) (c2 : Room w' s' 6) (c3 : Kept se.owns W1 w')
 (c4 : ∀ k, s'.owns k → se.owns k ∨ (W1.heap.size ≤ k ∧ k < w'.heap.size)) : EmStep w b V sd se sp E e w' s' := by
 have hl := R.host.lt
 have hg := R.host.grow g
 have hl1 := hg.lt
 refine ⟨by rw [c3.blk b hl1 R.apE, hg.blk], by rw [c3.free b hl1 R.apE]; exact hg.free, ?_, c2, (g.kept _).trans c3 (fun _ _ h => h), fun k hk => ?_⟩
 · exact Cells.rows (by rw [zgl]; exact c1) (by omega) (zh6 R.evs.wid (fun i hi => by
    have : i = 0 := by simp at hi; omega
    subst this; exact he))
 · rcases c4 k hk with h | h
   · exact Or.inl h
   · exact Or.inr ⟨Nat.le_trans g.size h.1, h.2⟩
theorem EmStep.post {w w' : World} {b : Nat} {own : Nat → Prop} {V : SV} {sd se sp s' : Sl} {E : Em} {e : List Int} (h : EmStep w b V sd se sp E e w' s') (R : RepE w b V sd se sp E) (ho : ∀ k, own k ↔ zht b V sd se sp k) :
 EPost w b own { E with evs := E.evs ++ [e] } (w'.setRow b (hoA V E.now.num (emR sd s' sp E.err))) := by
 have hl := R.host.lt
 have nb : ¬ s'.owns b := fun hb => by
  rcases h.own b hb with h1 | h1
  · exact R.apE h1
  · omega
 have k1 : Kept (fun k => k = b) w' (w'.setRow b (hoA V E.now.num (emR sd s' sp E.err))) := (Kept.refl _ _).setRow b _ (fun _ => rfl)
 have hlt : ∀ k, s'.owns k → k < w'.heap.size := fun k hk => by
  rcases h.own k hk with h1 | h1
  · have := R.inE k h1; have := h.kept.size; omega
  · exact h1.2
 have hV := R.host.rep.kept h.kept (fun k hk => (R.apVE k hk).1)
 have hsz := h.kept.size
 refine ⟨zht b V sd s' sp, ⟨V, sd, s', sp, ⟨⟨by rw [zer _ _ _ _ h.free, if_pos rfl], by rw [zd1]; exact h.free, hV.kept k1 (fun k hk e => R.host.apart (by have e : k = b := e; rw [← e]; exact hk)), R.host.apart, fun k hk => ?_⟩, ?_, ?_, ?_, ?_, ?_, ?_, ?_, ?_, R.apD, nb, R.apP, fun k hk => ⟨fun h2 => ?_, (R.apVE k hk).2⟩, fun k hk => ⟨fun h2 => ?_, (R.apDE k hk).2⟩, fun k hk h2 => ?_⟩, fun _ => Iff.rfl⟩, ?_, fun k hk => ?_⟩
 · rw [size_setRow]; have := R.host.in' k hk; omega
 · exact (R.drs.kept h.kept (fun hl => (R.apDE _ (zbs R.drs hl)).1)).kept k1 (fun hl e => R.apD (by have e : sd.b = b := e; rw [← e]; exact zbs R.drs hl))
 · exact h.evs.kept k1 (fun hl e => nb (by have e : s'.b = b := e; rw [← e]; exact zbn h.evs hl))
 · exact h.evR.kept k1 (fun k hk e => nb (by have e : k = b := e; rw [← e]; exact hk))
 · exact (R.pend.kept h.kept (fun hl h2 => R.apEP _ h2 (zbn R.pend hl))).kept k1 (fun hl e => R.apP (by have e : sp.b = b := e; rw [← e]; exact zbn R.pend hl))
 · exact (R.pendR.kept h.kept (fun k hk h2 => R.apEP _ h2 hk)).kept k1 (fun k hk e => R.apP (by have e : k = b := e; rw [← e]; exact hk))
 · exact fun k hk => by rw [size_setRow]; have := R.inD k hk; omega
 · exact fun k hk => by rw [size_setRow]; exact hlt k hk
 · exact fun k hk => by rw [size_setRow]; have := R.inP k hk; omega
 · rcases h.own k h2 with h1 | h1
   · exact (R.apVE k hk).1 h1
   · have := R.host.in' k hk; omega
 · rcases h.own k h2 with h1 | h1
   · exact (R.apDE k hk).1 h1
   · have := R.inD k hk; omega
 · rcases h.own k hk with h1 | h1
   · exact R.apEP k h1 h2
   · have := R.inP k h2; omega
 · exact (h.kept.mono (o2 := own) (fun k _ h => (ho k).2 (Or.inr (Or.inr (Or.inr (Or.inl h)))))).trans k1 (fun k _ e => (ho k).2 (Or.inl e))
 · rcases hk with h1 | h1 | h1 | h1 | h1
   · exact Or.inl ((ho k).2 (Or.inl h1))
   · exact Or.inl ((ho k).2 (Or.inr (Or.inl h1)))
   · exact Or.inl ((ho k).2 (Or.inr (Or.inr (Or.inl h1))))
   · rcases h.own k h1 with h2 | h2
     · exact Or.inl ((ho k).2 (Or.inr (Or.inr (Or.inr (Or.inl h2)))))
     · exact Or.inr ⟨h2.1, by rw [size_setRow]; exact h2.2⟩
   · exact Or.inl ((ho k).2 (Or.inr (Or.inr (Or.inr (Or.inr h1)))))
end Go.Proofs.YthfalocligkamaaGreatDoor
namespace Go.Proofs.YthfalocligkamaaGreatDoor
open Go Go.RowKit Go.Shelf
structure EmOk (E : Em) (n : Nat) : Prop where
 small : SmallN E.now n
 evs : E.evs.length ≤ 65536
 pend : E.pend.length ≤ n
theorem EmOk.mono {E : Em} {n m : Nat} (h : EmOk E n) (hn : n ≤ m) : EmOk E m := ⟨h.small.mono hn, h.evs, Nat.le_trans h.pend hn⟩
theorem EmOk.do1 {E : Em} {n : Nat} (h : EmOk E n) (e : List Int) : EmOk (E.do1 e) (n + 1) := by
 have h1 := h.mono (Nat.le_succ n)
 unfold Em.do1
 split
 · exact h1
 · cases hd : zen E.now e with
   | error m => exact ⟨h1.small, h1.evs, h1.pend⟩
   | ok S =>
     have hs := zr9 h.small hd
     show EmOk (if E.evs.length < 65536 then _ else _) _
     split
     · exact ⟨hs, by show (E.evs ++ [e]).length ≤ _; rw [List.length_append]; show E.evs.length + 1 ≤ _; omega, h1.pend⟩
     · exact ⟨hs, h1.evs, h1.pend⟩
theorem EmOk.fail {E : Em} {n : Nat} (h : EmOk E n) (m : Int) : EmOk (E.fail m) n := by
 unfold Em.fail
 split
 · exact ⟨h.small, h.evs, h.pend⟩
 · exact h
theorem EmOk.dos {n : Nat} : ∀ (l : List (List Int)) {E : Em}, EmOk E n → EmOk (E.dos l) (n + l.length)
 | [], _, h => h
 | e :: l, E, h => by
   have := EmOk.dos (n := n + 1) l (h.do1 e)
   rw [List.length_cons, show n + (l.length + 1) = n + 1 + l.length by omega]
   exact this
theorem EmOk.set {E : Em} {n : Nat} (h : EmOk E n) (e : List Int) (was v : Int) : EmOk (E.set e was v) (n + 1) := by
 unfold Em.set
 split
 · exact (h.fail _).mono (Nat.le_succ n)
 · exact h.do1 _
theorem EmOk.setObj {E : Em} {n : Nat} (h : EmOk E n) (id f v : Int) : EmOk (E.setObj id f v) (n + 1) := by
 unfold Em.setObj
 split
 · exact h.mono (Nat.le_succ n)
 · split
   · exact h.do1 _
   · exact h.set _ _ _
theorem EmOk.setGame {E : Em} {n : Nat} (h : EmOk E n) (f v : Int) : EmOk (E.setGame f v) (n + 1) := by
 unfold Em.setGame
 split
 · exact h.mono (Nat.le_succ n)
 · split
   · exact h.do1 _
   · exact h.set _ _ _
set_option maxRecDepth 100000 in
theorem zg9 (w : World) (b : Nat) (own : Nat → Prop) (E : Em) (R : Emt w b own E) (he : E.err = 0) (n : Int) :
 Calls Tryz.prog 106 #[.pointer (some ⟨b, 0, none⟩), .bool true, .int .i64 n] w fun e w' => e = .returned (.bool true) ∧ Grow w w' := by
 have HE := Lib.hid (fun W (g : Grow w W) => zas W b own E (R.grow g))
 rw [he, za4] at HE
 clear R he
 go_enter Tryz.func106, Tryz.ntmps106
 go_wp2_with (go_at_call 17; refine (HE.out _ grI).mono ?_; rintro e' w' ⟨rfl, nx, rfl⟩)
 go_ret
 exact ⟨rfl, grI⟩
theorem RepE.grow {w w' : World} {b : Nat} {V : SV} {sd se sp : Sl} {E : Em} (h : RepE w b V sd se sp E) (g : Grow w w') : RepE w' b V sd se sp E := h.kept (g.kept (fun _ => False)) (fun _ _ h => h)
theorem z6x {wr W w1 : World} {b : Nat} {own : Nat → Prop} {V : SV} {sd se sp : Sl} {E : Em} {S' : St} (h : RepE wr b V sd se sp E) (ho : ∀ k, own k ↔ zht b V sd se sp k) (g : Grow wr W) (d : Done W b V (emR sd se sp E.err) S' w1) :
 ∃ V', RepE w1 b V' sd se sp { E with now := S' } ∧ Kept own wr w1 ∧ (∀ k, zht b V' sd se sp k → own k ∨ (wr.heap.size ≤ k ∧ k < w1.heap.size)) ∧ Kept (fun k => k = b) W w1 := by
 have hg := h.grow g
 obtain ⟨V', hH', hp', hu'⟩ := d.host hg.host
 have hk := hp'.kept
 refine ⟨V', hg.done hH' hk hu', (g.kept own).trans hk (fun k _ e => (ho k).2 (Or.inl e)), fun k hk2 => ?_, hk⟩
 rcases hk2 with h1 | h1 | h1 | h1 | h1
 · exact Or.inl ((ho k).2 (Or.inl h1))
 · rcases hu' k h1 with h2 | h2
   · exact Or.inl ((ho k).2 (Or.inr (Or.inl h2)))
   · exact Or.inr ⟨Nat.le_trans g.size h2.1, h2.2⟩
 · exact Or.inl ((ho k).2 (Or.inr (Or.inr (Or.inl h1))))
 · exact Or.inl ((ho k).2 (Or.inr (Or.inr (Or.inr (Or.inl h1)))))
 · exact Or.inl ((ho k).2 (Or.inr (Or.inr (Or.inr (Or.inr h1)))))
set_option maxRecDepth 100000 in
set_option maxHeartbeats 4000000 in
theorem ze1 (w : World) (b : Nat) (own : Nat → Prop) (E : Em) (R : Emt w b own E) (n : Nat) (K : EmOk E n) (sl : Sl) (l : List (List Int)) (RL : Rows' w sl 6 l) (hsl : 0 < l.length → ¬ own sl.b) (hn : n + l.length ≤ 1000000) :
 Calls Tryz.prog 112 #[.pointer (some ⟨b, 0, none⟩), sl.val] w fun e w' => e = .returned (.tuple #[]) ∧ EPost w b own (E.dos l) w' := by
 have hlen := RL.len
 have hwid := RL.wid
 have hlt0 := R.lt
 have HR := Lib.hid R
 have HRL := Lib.hid RL
 have HK := Lib.hid K
 have HSL := Lib.hid hsl
 have HLT := Lib.hid hlt0
 have HWID := Lib.hid hwid
 generalize hT : E.dos l = T
 have HT := Lib.hid hT
 clear R RL K hT hsl hlt0 hwid
 go_enter Tryz.func112, Tryz.ntmps112
 go_wp2_with fail
 go_loopw [9] (fun i wr => ∃ (k : Nat) (Ek : Em) (ownk : Nat → Prop), k ≤ l.length ∧ i = .int .i64 k ∧ Emt wr b ownk Ek ∧ Kept own w wr ∧ (∀ j, ownk j → own j ∨ (w.heap.size ≤ j ∧ j < wr.heap.size)) ∧ EmOk Ek (n + k) ∧ Hid (Ek.dos (l.drop k) = T)) (fun i _ => l.length - (intOf i).toNat)
 case atStart => exact ⟨0, E, own, by omega, rfl, HR.out, Kept.refl _ _, fun j h => Or.inl h, HK.out, HT⟩
 case round =>
  obtain ⟨k, Ek, ownk, hk, rfl, hRk, hKk, hOk, hEk, hTk⟩ := hrel
  have hRL : Rows' wr sl 6 l := HRL.out.kept hKk HSL.out
  by_cases hlt : k < l.length
  · obtain ⟨qb, qw, qsz, qsub, _⟩ := hRL.at (by omega) k hlt
    have hdr := hTk.out
    rw [z0w _ _ _ hlt] at hdr
    generalize rowAt l k = row at *
    have hPost : ∀ (E2 : Em) (w2 : World), EPost wr b ownk E2 w2 → EPost w b own E2 w2 := fun E2 w2 h => EPost.then hKk hOk h
    have HPost := Lib.hid hPost
    have HEr := Lib.hid (fun W (g : Grow wr W) => zas W b ownk Ek (hRk.grow g))
    have HEk := Lib.hid hEk
    have HRk := Lib.hid hRk
    have HKk := Lib.hid hKk
    have HOk := Lib.hid hOk
    by_cases he : Ek.err = 0
    · rw [he, za4] at HEr
      obtain ⟨V, sd, se, sp, hr, ho⟩ := hRk
      have hH := hr.host
      have hcell := zaf (hH).free (hH).blk; have hfz := zah (hH).free; have hset := zag (hH).free (hH).blk; have hblk := (hH).blk; have hfree := (hH).free; have hlt := (hH).lt; have hne1 : ¬ b = (wr).heap.size := (by omega); have hne2 : ¬ (wr).heap.size = b := (by omega)
      have hDo := fun (W : World) (H : Host W b V Ek.now (emR sd se sp Ek.err)) => yau Ek.now V b (emR sd se sp Ek.err) row qw W H (hEk.small.small (by omega))
      have HR1 := Lib.hid hr
      have HO1 := Lib.hid ho
      have hc40 := hr.errCell
      rw [he, za4] at hc40
      clear hr ho hH hblk hPost hEk hKk hOk hRL hcell
      cases hd : zen Ek.now row with
      | error m =>
        rw [hd] at hDo
        have hm := zfx hd
        have hT2 : T = { Ek with err := m } := by
         rw [← hdr]
         have : Ek.do1 row = { Ek with err := m } := by unfold Em.do1; rw [if_neg (by rw [he]; simp), hd]
         rw [this]
         exact zi8 (by exact hm) _
        subst hT2
        have hs := hset 40 (errV m)
        rw [zlr, zap hm] at hs
        have HDo := Lib.hid hDo
        have HV := Lib.hid (zap hm)
        clear hDo hdr hd hm hTk hset he
        go_wp2_with (first | (go_at_call 17; refine (HEr.out _ grI).mono ?_; rintro e' w' ⟨rfl, nx, rfl⟩))
        go_region_law (refine zak (by rfl) ?_; go_simp; go_at_call 139; refine (HDo.out _ (HR1.out.host.grow grI)).mono ?_; rintro r w' ⟨hr, ny, rfl⟩; rw [HV.out] at hr; subst hr)
        go_wp2_with fail
        refine bodyPost_ret (results_none rfl _ _ _) rfl ?_
        exact ⟨rfl, HPost.out _ _ (Emt.setErr HR1.out HO1.out m grI)⟩
      | ok S' =>
        rw [hd] at hDo
        have hd1 : Ek.do1 row = if Ek.evs.length < 65536 then { Ek with now := S', evs := Ek.evs ++ [row] } else { Ek with now := S', err := 5 } := by
         unfold Em.do1; rw [if_neg (by rw [he]; simp), hd]
        have hk1 := HEk.out.do1 row
        have HDo := Lib.hid hDo
        have HHE := Lib.hid he
        have HD1 := Lib.hid hd1
        have HK1 := Lib.hid hk1
        have HTs : Hid ((Ek.do1 row).dos (l.drop (k + 1)) = T) := hdr
        clear hDo hdr hd hTk hset he hd1 hk1
        go_wp2_with (first | (go_at_call 17; refine (HEr.out _ grI).mono ?_; rintro e' w' ⟨rfl, nx, rfl⟩))
        go_region_law (refine zak (by rfl) ?_; go_simp; go_at_call 139; refine (HDo.out _ (HR1.out.host.grow grI)).mono ?_; rintro e' w1 ⟨rfl, hD⟩)
        obtain ⟨V1, hR2, hK2, hO2, hK3⟩ := z6x HR1.out HO1.out grI hD
        have hq : w1.blk wr.heap.size = cellsOf row := by rw [hK3.blk _ (by first | (go_simp; done) | (go_simp; omega) | (simp only [Sl.b]; go_simp; omega)) hne2]; go_simp
        have hqf : w1.free wr.heap.size = true := by rw [hK3.free _ (by first | (go_simp; done) | (go_simp; omega) | (simp only [Sl.b]; go_simp; omega)) hne2]; go_simp
        have hqs : wr.heap.size < w1.heap.size := Nat.lt_of_lt_of_le (by first | (go_simp; done) | (go_simp; omega) | (simp only [Sl.b]; go_simp; omega)) hK3.size
        have hH2 := hR2.host
        have hcell2 := zaf hH2.free hH2.blk
        have hfz2 := zah hH2.free
        have hset2 := zag hH2.free hH2.blk
        have hfree2 := hH2.free
        have hlt2 := hH2.lt
        have hsen : se.n = Ek.evs.length := hR2.evs.len
        have hne3 : ¬ b = w1.heap.size := by omega
        have hne4 : ¬ w1.heap.size = b := by omega
        have hne5 : ¬ wr.heap.size = w1.heap.size := by omega
        have HR2 := Lib.hid hR2
        have HK2 := Lib.hid hK2
        have HO2 := Lib.hid hO2
        have hEm2 : Emt w1 b (zht b V1 sd se sp) { Ek with now := S' } := ⟨V1, sd, se, sp, hR2, fun _ => Iff.rfl⟩
        have HMT := Lib.hid (fun W (g : Grow w1 W) => zg9 W b _ _ (hEm2.grow g) HHE.out 5)
        have HMF := Lib.hid (fun W (g : Grow w1 W) => ziq W b _ _ (hEm2.grow g) false 5 (by decide))
        have HEM := Lib.hid hEm2
        clear hD hR2 hK2 hO2 hK3 hH2 hEm2
        by_cases hl : Ek.evs.length < 65536
        · have hl2 : (Ek.evs.length : Int) < 65536 := by omega
          go_wp2_with (go_at_call 106; refine (HMT.out _ grI).mono ?_; rintro e' w' ⟨rfl, nx, rfl⟩)
          go_region_law (first | ((refine zdm (by rfl) _ _ 62 (by rfl) 90 Tryz.t90 (.agg (cellsOf (List.replicate 6 0))) 6 48 Tryz.underlying62 (by kernel_rfl) (by kernel_rfl) (by kernel_rfl) (by kernel_rfl) (by omega) rfl se (.mk _ 0 1 1) (zea Ek.evs) (zea [row]) (by rfl) (by rfl) (HR2.out.evs.cells.grow grI) (HR2.out.evR.grow grI) (zd4 _ _ 6 row qw (by go_simp)) (zck _) (zck _) (by rw [hsen]; show Ek.evs.length + 1 ≤ 4194304; omega) ?_; intro s' w' c1 c2 c3 c4 c5 c6; have hS := z6z HR2.out qw grI c1 c2 c3 c4; have hq3 := hS.blk; have hqf3 := hS.free; have hqc := zaf hqf3 hq3; have hqz := zah hqf3; have hqs3 := zag hqf3 hq3; have HS := Lib.hid hS; clear hS hq3 c1 c2 c3 c4 c5 c6)))
          all_goals
           go_wp2_with fail
           go_roundw
           case rel =>
            have h3 := HPost.out _ _ (EPost.then HK2.out HO2.out (HS.out.post HR2.out (fun _ => Iff.rfl)))
            have h4 := HD1.out
            have h5 := HK1.out
            have h6 := HTs.out
            rw [if_pos hl] at h4
            rw [h4] at h5 h6
            obtain ⟨own3, r3, k3, o3⟩ := h3
            exact ⟨k + 1, _, own3, by omega, by go_num, r3, k3, o3, by rw [← Nat.add_assoc]; exact h5, h6⟩
           case measure => simp [intOf]; omega
        · have hl2 : ¬ (Ek.evs.length : Int) < 65536 := by omega
          go_wp2_with fail
          refine (HMF.out _ grI).mono ?_
          rintro e' w2 ⟨rfl, hE⟩
          have HE := Lib.hid (HPost.out _ _ (EPost.then HK2.out HO2.out (EPost.low grI hE)))
          clear hE
          go_wp2_with fail
          go_roundw
          case rel =>
           have h4 := HD1.out
           have h5 := HK1.out
           have h6 := HTs.out
           rw [if_neg hl] at h4
           rw [h4] at h5 h6
           obtain ⟨own3, r3, k3, o3⟩ := HE.out
           have e1 : (Em.must { Ek with now := S' } false 5) = { Ek with now := S', err := 5 } := by unfold Em.must; rw [if_neg (by show ¬ Ek.err ≠ 0; rw [HHE.out]; simp)]; rfl
           rw [e1] at r3
           exact ⟨k + 1, _, own3, by omega, by go_num, r3, k3, o3, by rw [← Nat.add_assoc]; exact h5, h6⟩
          case measure => simp [intOf]; omega
    · have hT2 : T = Ek := by rw [← hTk.out]; exact zi8 he _
      subst hT2
      rw [zap he] at HEr
      clear hRk hEk hKk hOk hdr hTk he hRL hPost
      go_wp2_with (go_at_call 17; refine (HEr.out _ grI).mono ?_; rintro e' w' ⟨rfl, nx, rfl⟩)
      refine bodyPost_ret (results_none rfl _ _ _) rfl ?_
      exact ⟨rfl, HPost.out _ _ (.of_grow HRk.out grI)⟩
  · have hT2 : T = Ek := by
     have := hTk.out
     rw [List.drop_eq_nil_of_le (by omega)] at this
     exact this.symm
    subst hT2
    have HPost := Lib.hid (EPost.then hKk hOk (.of_grow hRk (Grow.refl _)))
    clear hRk hKk hOk hTk hRL hEk
    go_wp2_with fail
    go_end0
    exact ⟨rfl, HPost.out⟩
end Go.Proofs.YthfalocligkamaaGreatDoor
namespace Go.Proofs.YthfalocligkamaaGreatDoor
open Go Go.RowKit Go.Shelf
set_option maxRecDepth 100000 in
set_option maxHeartbeats 2000000 in
theorem zlm (w : World) (b : Nat) (own : Nat → Prop) (E : Em) (R : Emt w b own E) (n : Nat) (K : EmOk E n) (hn : n + 1 ≤ 1000000) (e : List Int) (he : e.length = 6) (was v : Int) :
 Calls Tryz.prog 120 #[.pointer (some ⟨b, 0, none⟩), .agg (cellsOf e), .int .i64 was, .int .i64 v] w fun r w' => r = .returned (.tuple #[]) ∧ EPost w b own (E.set e was v) w' := by
 have hown := R.lt
 have he2 : ((e.set 3 was).set 4 v).length = 6 := by rw [List.length_set, List.length_set, he]
 have HC := Lib.hid (fun W => zbv ((e.set 3 was).set 4 v) he2 W)
 have HF := Lib.hid (fun W (g : Grow w W) m => ze2 W b own E (R.grow g) m)
 have HD := Lib.hid (fun W (g : Grow w W) (q : Nat) (h : W.blk q = cellsOf ((e.set 3 was).set 4 v)) (hq : ¬ own q) => ze1 W b own E (R.grow g) n K (.mk q 0 1 1) [(e.set 3 was).set 4 v] ((zd4 W q 6 _ he2 h).rows (by omega) (zij (fun r hr => by rw [List.mem_singleton] at hr; subst hr; exact he2))) (fun _ => hq) (by simp; omega))
 have HL := Lib.hid hown
 unfold Em.set
 clear R K hown
 by_cases h : was = v
 · rw [if_pos h]
   have heq : (was == v) = true := by simpa using h
   clear h
   go_enter Tryz.func120, Tryz.ntmps120
   go_wp2_with (first | (go_at_call 119; refine (HC.out _).mono ?_; rintro e' w' ⟨rfl, nx, rfl⟩) | (go_at_call 26; refine (HF.out _ grI _).mono ?_; rintro e' w' ⟨rfl, hE⟩; have HE := Lib.hid hE; clear hE))
   refine bodyPost_ret (results_none rfl _ _ _) rfl ?_
   exact ⟨rfl, EPost.low grI HE.out⟩
 · rw [if_neg h]
   go_enter Tryz.func120, Tryz.ntmps120
   go_wp2_with (go_at_call 112; refine (HD.out _ grI _ (by go_simp) (fun hq => by have := HL.out _ hq; (try simp only [zaa] at this); omega)).mono ?_; rintro e' w' ⟨rfl, hE⟩; have HE := Lib.hid hE; clear hE)
   go_end0
   exact ⟨rfl, EPost.low grI HE.out⟩
@[go_sem ↓] theorem z43 (ρ : Operand → Value) (dst : Option Tmp) (parts : Array (Nat × Operand)) (ty : TypeId) (pos : String) (after : Array Edge) (guard : Option (Nat × Bool)) :
 execOp ρ { dst, op := .build 90 parts, type := ty, pos, after, guard } = za0 90 (parts.map fun (i, x) => (i, ρ x)) := rfl
@[go_sem] theorem zxs (w : World) (a f : Int) : (za0 90 #[(0, .int .i64 2), (1, .int .i64 a), (2, .int .i64 f)]).run Tryz.prog w = .ok (.value (.agg (cellsOf [2, a, f, 0, 0, 0]))) w := by kernel_rfl
@[go_sem] theorem zuq (w : World) (f : Int) : (za0 90 #[(0, .int .i64 4), (2, .int .i64 f)]).run Tryz.prog w = .ok (.value (.agg (cellsOf [4, 0, f, 0, 0, 0]))) w := by kernel_rfl
@[go_sem] theorem zus (w : World) (a b c d e : Int) : (za0 90 #[(0, .int .i64 1), (1, .int .i64 a), (2, .int .i64 b), (3, .int .i64 c), (4, .int .i64 d), (5, .int .i64 e)]).run Tryz.prog w = .ok (.value (.agg (cellsOf [1, a, b, c, d, e]))) w := by kernel_rfl
theorem zvp {id f : Int} (h : evCheck [2, id, f, 0, 0, 0] = 0) : 0 ≤ id ∧ 0 ≤ f ∧ f < 18 := by
 unfold evCheck zce zbr zcu inR zcv inB at h
 simp only [gt, List.getD_cons_zero, List.getD_cons_succ] at h
 simp at h
 omega
theorem z0m {f : Int} (h : evCheck [4, 0, f, 0, 0, 0] = 0) : 0 ≤ f ∧ f < 7 := by
 unfold evCheck zce zbr zcu inR zcv inB at h
 simp only [gt, List.getD_cons_zero, List.getD_cons_succ] at h
 simp at h
 omega
set_option maxRecDepth 100000 in
set_option maxHeartbeats 4000000 in
theorem zb6 (w : World) (b : Nat) (own : Nat → Prop) (E : Em) (R : Emt w b own E) (n : Nat) (K : EmOk E n) (hn : n + 1 ≤ 1000000) (id f v : Int) :
 Calls Tryz.prog 86 #[.pointer (some ⟨b, 0, none⟩), .int .i64 id, .int .i64 f, .int .i64 v] w fun r w' => r = .returned (.tuple #[]) ∧ EPost w b own (E.setObj id f v) w' := by
 have hown := R.lt
 have HEr := Lib.hid (fun W (g : Grow w W) => zas W b own E (R.grow g))
 have HR0 := Lib.hid R
 unfold Em.setObj
 by_cases he : E.err = 0
 · rw [if_neg (by rw [he]; simp)]
   rw [he, za4] at HEr
   have HC := Lib.hid (fun W => zbv [2, id, f, 0, 0, 0] rfl W)
   have HD := Lib.hid (fun W (g : Grow w W) (q : Nat) (h : W.blk q = cellsOf [2, id, f, 0, 0, 0]) (hq : ¬ own q) => ze1 W b own E (R.grow g) n K (.mk q 0 1 1) [[2, id, f, 0, 0, 0]] ((zd4 W q 6 _ rfl h).rows (by omega) (zij (fun r hr => by rw [List.mem_singleton] at hr; subst hr; rfl))) (fun _ => hq) (by simp; omega))
   have HS := Lib.hid (fun W (g : Grow w W) was => zlm W b own E (R.grow g) n K hn [2, id, f, 0, 0, 0] rfl was v)
   have HL := Lib.hid hown
   obtain ⟨V, sd, se, sp, hr, ho⟩ := R
   have hH := hr.host
   have hcell := zaf (hH).free (hH).blk; have hfz := zah (hH).free; have hset := zag (hH).free (hH).blk; have hblk := (hH).blk; have hfree := (hH).free; have hlt := (hH).lt; have hne1 : ¬ b = (w).heap.size := (by omega); have hne2 : ¬ (w).heap.size = b := (by omega)
   have hN := hr.host.rep.objs.len
   have hck : evCheck [2, id, f, 0, 0, 0] = 0 → 0 ≤ id ∧ 0 ≤ f ∧ f < 18 := zvp
   have HRO := Lib.hid hr.host.rep.objs
   clear hr ho hH hblk K hown he
   by_cases hc : evCheck [2, id, f, 0, 0, 0] = 0
   · obtain ⟨i0, f0, f1⟩ := hck hc
     rw [hc, za4] at HC
     clear hck
     by_cases hid : (E.now.objs.length : Int) ≤ id
     · rw [if_pos (.inr hid)]
       clear hc
       go_enter Tryz.func86, Tryz.ntmps86
       go_wp2_with (first | (go_at_call 17; refine (HEr.out _ grI).mono ?_; rintro e' w' ⟨rfl, nx, rfl⟩) | (go_at_call 119; refine (HC.out _).mono ?_; rintro e' w' ⟨rfl, nx, rfl⟩) | (go_at_call 112; refine (HD.out _ grI _ (by go_simp) (fun hq => by have := HL.out _ hq; (try simp only [zac, zaa] at this); omega)).mono ?_; rintro e' w' ⟨rfl, hE⟩; have HE := Lib.hid hE; clear hE))
       refine bodyPost_ret (results_none rfl _ _ _) rfl ?_
       exact ⟨rfl, EPost.low grI HE.out⟩
     · rw [if_neg (by rw [hc]; simp; omega)]
       obtain ⟨a, rfl⟩ := Int.eq_ofNat_of_zero_le i0
       obtain ⟨j, rfl⟩ := Int.eq_ofNat_of_zero_le f0
       rw [Int.toNat_natCast, Int.toNat_natCast]
       have ha : a < E.now.objs.length := by omega
       have hj : j < 18 := by omega
       have hoc := HRO.out.cell a j ha hj
       have hob := (zbd hoc).1
       have hobn : ¬ V.objs.b = w.heap.size := by omega
       have i1 : (a : Int) < E.now.objs.length := by omega
       have i2 : ¬ E.now.objs.length ≤ a := by omega
       have i3 : (j : Int) < 18 := by omega
       clear hc
       go_enter Tryz.func86, Tryz.ntmps86
       go_wp2_with (first | (go_at_call 17; refine (HEr.out _ grI).mono ?_; rintro e' w' ⟨rfl, nx, rfl⟩) | (go_at_call 119; refine (HC.out _).mono ?_; rintro e' w' ⟨rfl, nx, rfl⟩))
       go_region_law (refine zak (by rfl) ?_; go_simp; go_at_call 120; refine (HS.out _ grI _).mono ?_; rintro e' w2 ⟨rfl, hE⟩; have HE := Lib.hid hE; clear hE)
       all_goals
        go_wp2_with fail
        go_end0
        exact ⟨rfl, EPost.low grI HE.out⟩
   · rw [if_pos (.inl hc)]
     rw [zap hc] at HC
     clear hc hck
     go_enter Tryz.func86, Tryz.ntmps86
     go_wp2_with (first | (go_at_call 17; refine (HEr.out _ grI).mono ?_; rintro e' w' ⟨rfl, nx, rfl⟩) | (go_at_call 119; refine (HC.out _).mono ?_; rintro e' w' ⟨rfl, nx, rfl⟩) | (go_at_call 112; refine (HD.out _ grI _ (by go_simp) (fun hq => by have := HL.out _ hq; (try simp only [zac, zaa] at this); omega)).mono ?_; rintro e' w' ⟨rfl, hE⟩; have HE := Lib.hid hE; clear hE))
     refine bodyPost_ret (results_none rfl _ _ _) rfl ?_
     exact ⟨rfl, EPost.low grI HE.out⟩
 · rw [if_pos he]
   rw [zap he] at HEr
   clear he R K hown
   go_enter Tryz.func86, Tryz.ntmps86
   go_wp2_with (go_at_call 17; refine (HEr.out _ grI).mono ?_; rintro e' w' ⟨rfl, nx, rfl⟩)
   refine bodyPost_ret (results_none rfl _ _ _) rfl ?_
   exact ⟨rfl, .of_grow HR0.out grI⟩
set_option maxRecDepth 100000 in
set_option maxHeartbeats 4000000 in
theorem zee (w : World) (b : Nat) (own : Nat → Prop) (E : Em) (R : Emt w b own E) (n : Nat) (K : EmOk E n) (hn : n + 1 ≤ 1000000) (f v : Int) :
 Calls Tryz.prog 109 #[.pointer (some ⟨b, 0, none⟩), .int .i64 f, .int .i64 v] w fun r w' => r = .returned (.tuple #[]) ∧ EPost w b own (E.setGame f v) w' := by
 have hown := R.lt
 have HEr := Lib.hid (fun W (g : Grow w W) => zas W b own E (R.grow g))
 have HR0 := Lib.hid R
 unfold Em.setGame
 by_cases he : E.err = 0
 · rw [if_neg (by rw [he]; simp)]
   rw [he, za4] at HEr
   have HC := Lib.hid (fun W => zbv [4, 0, f, 0, 0, 0] rfl W)
   have HD := Lib.hid (fun W (g : Grow w W) (q : Nat) (h : W.blk q = cellsOf [4, 0, f, 0, 0, 0]) (hq : ¬ own q) => ze1 W b own E (R.grow g) n K (.mk q 0 1 1) [[4, 0, f, 0, 0, 0]] ((zd4 W q 6 _ rfl h).rows (by omega) (zij (fun r hr => by rw [List.mem_singleton] at hr; subst hr; rfl))) (fun _ => hq) (by simp; omega))
   have HS := Lib.hid (fun W (g : Grow w W) was => zlm W b own E (R.grow g) n K hn [4, 0, f, 0, 0, 0] rfl was v)
   have HL := Lib.hid hown
   obtain ⟨V, sd, se, sp, hr, ho⟩ := R
   have hH := hr.host
   have hcell := zaf (hH).free (hH).blk; have hfz := zah (hH).free; have hset := zag (hH).free (hH).blk; have hblk := (hH).blk; have hfree := (hH).free; have hlt := (hH).lt; have hne1 : ¬ b = (w).heap.size := (by omega); have hne2 : ¬ (w).heap.size = b := (by omega)
   have hck : evCheck [4, 0, f, 0, 0, 0] = 0 → 0 ≤ f ∧ f < 7 := z0m
   clear hr ho hH hblk K hown he
   by_cases hc : evCheck [4, 0, f, 0, 0, 0] = 0
   · obtain ⟨f0, f1⟩ := hck hc
     rw [hc, za4] at HC
     clear hck
     rw [if_neg (by rw [hc]; simp)]
     obtain ⟨j, rfl⟩ := Int.eq_ofNat_of_zero_le f0
     rw [Int.toNat_natCast]
     have hj : j < 7 := by omega
     have hcg : (hoA V E.now.num (emR sd se sp E.err))[30 + j]? = some (I (E.now.num (18 + j))) := by
      rw [zgb _ _ _ _ (by omega), show 30 + j = 12 + (18 + j) by omega, za7 _ _ _ (by omega)]
     clear hc
     go_enter Tryz.func109, Tryz.ntmps109
     go_wp2_with (first | (go_at_call 17; refine (HEr.out _ grI).mono ?_; rintro e' w' ⟨rfl, nx, rfl⟩) | (go_at_call 119; refine (HC.out _).mono ?_; rintro e' w' ⟨rfl, nx, rfl⟩))
     go_region_law (refine zak (by rfl) ?_; go_simp; go_at_call 120; refine (HS.out _ grI _).mono ?_; rintro e' w2 ⟨rfl, hE⟩; have HE := Lib.hid hE; clear hE)
     all_goals
      go_wp2_with fail
      go_end0
      exact ⟨rfl, EPost.low grI HE.out⟩
   · rw [if_pos hc]
     rw [zap hc] at HC
     clear hc hck
     go_enter Tryz.func109, Tryz.ntmps109
     go_wp2_with (first | (go_at_call 17; refine (HEr.out _ grI).mono ?_; rintro e' w' ⟨rfl, nx, rfl⟩) | (go_at_call 119; refine (HC.out _).mono ?_; rintro e' w' ⟨rfl, nx, rfl⟩) | (go_at_call 112; refine (HD.out _ grI _ (by go_simp) (fun hq => by have := HL.out _ hq; (try simp only [zac, zaa] at this); omega)).mono ?_; rintro e' w' ⟨rfl, hE⟩; have HE := Lib.hid hE; clear hE))
     refine bodyPost_ret (results_none rfl _ _ _) rfl ?_
     exact ⟨rfl, EPost.low grI HE.out⟩
 · rw [if_pos he]
   rw [zap he] at HEr
   clear he R K hown
   go_enter Tryz.func109, Tryz.ntmps109
   go_wp2_with (go_at_call 17; refine (HEr.out _ grI).mono ?_; rintro e' w' ⟨rfl, nx, rfl⟩)
   refine bodyPost_ret (results_none rfl _ _ _) rfl ?_
   exact ⟨rfl, .of_grow HR0.out grI⟩
theorem zh3 (S : St) (id p : Int) : (showEv S id p).length ≤ 1 := by unfold showEv; (repeat' split) <;> simp
set_option maxRecDepth 100000 in
set_option maxHeartbeats 4000000 in
theorem zes (w : World) (b : Nat) (own : Nat → Prop) (E : Em) (R : Emt w b own E) (n : Nat) (K : EmOk E n) (hn : n + 1 ≤ 1000000) (id p : Int) :
 Calls Tryz.prog 107 #[.pointer (some ⟨b, 0, none⟩), .int .i64 id, .int .i64 p] w fun r w' => r = .returned (.tuple #[]) ∧ EPost w b own (E.show id p) w' := by
 have hown := R.lt
 have HEr := Lib.hid (fun W (g : Grow w W) => zas W b own E (R.grow g))
 have HR0 := Lib.hid R
 unfold Em.show
 by_cases he : E.err = 0
 · rw [if_neg (by rw [he]; simp)]
   rw [he, za4] at HEr
   have h1 := zh3 E.now id p
   have HW := Lib.hid (ztz E.now id p)
   have HD := Lib.hid (fun W (g : Grow w W) (s : Sl) (r : Rows' W s 6 (showEv E.now id p)) (hq : ∀ k, s.owns k → ¬ own k) => ze1 W b own E (R.grow g) n K s (showEv E.now id p) r (fun hl => hq _ (zbn r hl)) (by omega))
   have HL := Lib.hid hown
   obtain ⟨V, sd, se, sp, hr, ho⟩ := R
   have hH := hr.host
   have hcell := zaf (hH).free (hH).blk; have hfz := zah (hH).free; have hset := zag (hH).free (hH).blk; have hblk := (hH).blk; have hfree := (hH).free; have hlt := (hH).lt; have hne1 : ¬ b = (w).heap.size := (by omega); have hne2 : ¬ (w).heap.size = b := (by omega)
   have HSh := Lib.hid (fun W (g : Grow w W) => z3g E.now V W (hr.host.rep.grow g) id p)
   clear hr ho hH K hown he h1
   generalize showEv E.now id p = l at *
   go_enter Tryz.func107, Tryz.ntmps107
   go_wp2_with (first | (go_at_call 17; refine (HEr.out _ grI).mono ?_; rintro e' w' ⟨rfl, nx, rfl⟩) | (go_at_call 132; refine (HSh.out _ grI).mono ?_; rintro e' w' ⟨s', rfl, hO, nx, rfl⟩; have HO2 := Lib.hid (fun k hk => (hO.lt k hk).1); have hO3 : Rows' _ s' 6 l := hO.rows (by omega) (zij HW.out); clear hO; (try simp only [zae] at hO3); (try simp only [zad] at hO3); have HO3 := Lib.hid hO3; clear hO3))
   refine (HD.out _ grI s' HO3.out (fun k hk hk2 => by have h1 := HO2.out k hk; have h2 := HL.out k hk2; (try simp only [zac] at h1); omega)).mono ?_
   rintro e' w' ⟨rfl, hE⟩
   have HE := Lib.hid hE
   clear hE
   go_wp2_with fail
   go_end0
   exact ⟨rfl, EPost.low grI HE.out⟩
 · rw [if_pos he]
   rw [zap he] at HEr
   clear he R K hown
   go_enter Tryz.func107, Tryz.ntmps107
   go_wp2_with (go_at_call 17; refine (HEr.out _ grI).mono ?_; rintro e' w' ⟨rfl, nx, rfl⟩)
   go_end0
   exact ⟨rfl, .of_grow HR0.out grI⟩
end Go.Proofs.YthfalocligkamaaGreatDoor
