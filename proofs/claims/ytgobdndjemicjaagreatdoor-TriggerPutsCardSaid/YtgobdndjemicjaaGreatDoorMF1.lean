/- The document's emitter, as it stands in memory. -/
import Derived.Test.YtgobdndjemicjaaGreatDoorMPutN
import Derived.Test.YtgobdndjemicjaaGreatDoorMRef12
import Derived.Deep.RegionHeld3
import Derived.Test.YtgobdndjemicjaaGreatDoorMEmPl
import Derived.Test.YtgobdndjemicjaaGreatDoorMEmNew
import Derived.Test.YtgobdndjemicjaaGreatDoorMRefChk
namespace Go.Proofs.YtgobdndjemicjaaGreatDoor
open Go Go.RowKit Go.Shelf
def gR (sd se sp : Sl) (n : Int) : Array Value := #[sd.val, se.val, sp.val, I n]
@[go_sem] theorem ygy (sd se sp : Sl) (n : Int) : (gR sd se sp n).size = 4 := rfl
@[go_sem] theorem gR_0 (sd se sp : Sl) (n : Int) : (gR sd se sp n)[0]? = some sd.val := rfl
@[go_sem] theorem gR_1 (sd se sp : Sl) (n : Int) : (gR sd se sp n)[1]? = some se.val := rfl
@[go_sem] theorem gR_2 (sd se sp : Sl) (n : Int) : (gR sd se sp n)[2]? = some sp.val := rfl
@[go_sem] theorem gR_3 (sd se sp : Sl) (n : Int) : (gR sd se sp n)[3]? = some (I n) := rfl
def zvp (b : Nat) (V : SV) (sd se sp : Sl) (k : Nat) : Prop := k = b ∨ V.uses k ∨ sd.owns k ∨ se.owns k ∨ sp.owns k
structure RepD (w : World) (b : Nat) (V : SV) (sd se sp : Sl) (E : Em) : Prop where
 host : Host w b V E.now (gR sd se sp E.err)
 drs : Ints w sd E.draws
 evs : Rows' w se 6 E.evs
 evR : Room w se 6
 pend : Rows' w sp 3 E.pend
 pendR : Room w sp 3
 inD : ∀ k, sd.owns k → k < w.heap.size
 inE : ∀ k, se.owns k → k < w.heap.size
 inP : ∀ k, sp.owns k → k < w.heap.size
 apD : ¬ sd.owns b
 apE : ¬ se.owns b
 apP : ¬ sp.owns b
 apVE : ∀ k, V.uses k → ¬ se.owns k ∧ ¬ sp.owns k
 apDE : ∀ k, sd.owns k → ¬ se.owns k ∧ ¬ sp.owns k
 apEP : ∀ k, se.owns k → ¬ sp.owns k
theorem RepD.own_lt {w : World} {b : Nat} {V : SV} {sd se sp : Sl} {E : Em} (h : RepD w b V sd se sp E) : ∀ k, zvp b V sd se sp k → k < w.heap.size := fun k hk => by
 rcases hk with rfl | h1 | h1 | h1 | h1
 · exact h.host.lt
 · exact h.host.in' k h1
 · exact h.inD k h1
 · exact h.inE k h1
 · exact h.inP k h1
theorem RepD.kept {own : Nat → Prop} {w w' : World} {b : Nat} {V : SV} {sd se sp : Sl} {E : Em} (h : RepD w b V sd se sp E) (g : Kept own w w') (hn : ∀ k, zvp b V sd se sp k → ¬ own k) : RepD w' b V sd se sp E where
 host := zn8 h.host g (hn b (.inl rfl)) (fun k hk => hn k (.inr (.inl hk)))
 drs := h.drs.kept g (fun hl => hn _ (.inr (.inr (.inl (zbk h.drs hl)))))
 evs := h.evs.kept g (fun hl => hn _ (.inr (.inr (.inr (.inl (zh9 h.evs hl))))))
 evR := h.evR.kept g (fun k hk => hn k (.inr (.inr (.inr (.inl hk)))))
 pend := h.pend.kept g (fun hl => hn _ (.inr (.inr (.inr (.inr (zh9 h.pend hl))))))
 pendR := h.pendR.kept g (fun k hk => hn k (.inr (.inr (.inr (.inr hk)))))
 inD := fun k hk => Nat.lt_of_lt_of_le (h.inD k hk) g.size
 inE := fun k hk => Nat.lt_of_lt_of_le (h.inE k hk) g.size
 inP := fun k hk => Nat.lt_of_lt_of_le (h.inP k hk) g.size
 apD := h.apD
 apE := h.apE
 apP := h.apP
 apVE := h.apVE
 apDE := h.apDE
 apEP := h.apEP
def Gmt (w : World) (b : Nat) (own : Nat → Prop) (E : Em) : Prop := ∃ V sd se sp, RepD w b V sd se sp E ∧ ∀ k, own k ↔ zvp b V sd se sp k
theorem Gmt.lt {w : World} {b : Nat} {own : Nat → Prop} {E : Em} (h : Gmt w b own E) : ∀ k, own k → k < w.heap.size := fun k hk => by
 obtain ⟨V, sd, se, sp, hr, ho⟩ := h
 exact hr.own_lt k ((ho k).1 hk)
theorem Gmt.kept {own o2 : Nat → Prop} {w w' : World} {b : Nat} {E : Em} (h : Gmt w b own E) (g : Kept o2 w w') (hn : ∀ k, own k → ¬ o2 k) : Gmt w' b own E := by
 obtain ⟨V, sd, se, sp, hr, ho⟩ := h
 exact ⟨V, sd, se, sp, hr.kept g (fun k hk => hn k ((ho k).2 hk)), ho⟩
theorem Gmt.grow {own : Nat → Prop} {w w' : World} {b : Nat} {E : Em} (h : Gmt w b own E) (g : Grow w w') : Gmt w' b own E := h.kept (g.kept (fun _ => False)) (fun _ _ h => h)
theorem RepD.errCell {w : World} {b : Nat} {V : SV} {sd se sp : Sl} {E : Em} (h : RepD w b V sd se sp E) : w.cell? ⟨b, 40, none⟩ = some (I E.err) := by
 rw [zae h.host.free h.host.blk, show 40 = 37 + 3 from rfl, zb5]
 rfl
def Wr (w : World) (b k : Nat) : Prop := k = b ∨ ∃ s : Sl, ((w.blk b)[38]? = some s.val ∨ (w.blk b)[39]? = some s.val) ∧ s.owns k
theorem zz0 {s s' : Sl} (h : s.val = s'.val) : s = s' := by
 cases s <;> cases s'
 · rfl
 · injection h with h1; cases h1
 · injection h with h1; cases h1
 · injection h with h1 h2 h3
   injection h1 with h1
   injection h1 with h4 h5
   subst h2; subst h3; subst h4; subst h5; rfl
theorem zsg {w : World} {b : Nat} {V : SV} {num : Nat → Int} {sd se sp : Sl} {n : Int} (h : w.blk b = hoA V num (gR sd se sp n)) (k : Nat) : Wr w b k ↔ k = b ∨ se.owns k ∨ sp.owns k := by
 have h38 : (w.blk b)[38]? = some se.val := by rw [h, show 38 = 37 + 1 from rfl, zb5]; rfl
 have h39 : (w.blk b)[39]? = some sp.val := by rw [h, show 39 = 37 + 2 from rfl, zb5]; rfl
 refine ⟨fun hk => ?_, fun hk => ?_⟩
 · rcases hk with h1 | ⟨s, h1 | h1, h2⟩
   · exact .inl h1
   · rw [h38] at h1; have := zz0 (Option.some.inj h1); subst this; exact .inr (.inl h2)
   · rw [h39] at h1; have := zz0 (Option.some.inj h1); subst this; exact .inr (.inr h2)
 · rcases hk with h1 | h1 | h1
   · exact .inl h1
   · exact .inr ⟨se, .inl h38, h1⟩
   · exact .inr ⟨sp, .inr h39, h1⟩
def FPost (w : World) (b : Nat) (w' : World) : Prop := b < w.heap.size → Kept (Wr w b) w w' ∧ ∀ k, Wr w' b k → Wr w b k ∨ (w.heap.size ≤ k ∧ k < w'.heap.size)
theorem FPost.trans {w w1 w2 : World} {b : Nat} (h : FPost w b w1) (g : FPost w1 b w2) (hw : w.heap.size ≤ w1.heap.size) : FPost w b w2 := fun hb => by
 replace h := h hb
 replace g := g (by omega)
 refine ⟨h.1.trans g.1 (fun k hk h2 => ?_), fun k hk => ?_⟩
 · rcases h.2 k h2 with h1 | h1
   · exact h1
   · omega
 · rcases g.2 k hk with h1 | h1
   · rcases h.2 k h1 with h2 | h2
     · exact .inl h2
     · exact .inr ⟨h2.1, Nat.lt_of_lt_of_le h2.2 g.1.size⟩
   · exact .inr ⟨Nat.le_trans h.1.size h1.1, h1.2⟩
theorem FPost.grow {w w' : World} {b : Nat} (g : Grow w w') : FPost w b w' := fun hb => by
 obtain ⟨x, rfl⟩ := g
 refine ⟨Grow.kept _ ⟨x, rfl⟩, fun k hk => .inl ?_⟩
 unfold Wr at hk ⊢
 rwa [zgn, if_pos hb] at hk
theorem FPost.rep {w w' : World} {b : Nat} {V : SV} {S : St} (h : FPost w b w') (hb : b < w.heap.size) (R : RepSt w V S) (hn : ∀ k, V.uses k → ¬ Wr w b k) : RepSt w' V S := R.kept (h hb).1 hn
theorem RepD.step {w w' : World} {b : Nat} {V V' : SV} {num : Nat → Int} {sd sd' se se' sp sp' : Sl} {E : Em} {n : Int} (h : RepD w b V sd se sp E) (hb : w'.blk b = hoA V' num (gR sd' se' sp' n)) (g : Kept (fun k => k = b ∨ se.owns k ∨ sp.owns k) w w')
 (he : ∀ k, se'.owns k → se.owns k ∨ (w.heap.size ≤ k ∧ k < w'.heap.size)) (hp : ∀ k, sp'.owns k → sp.owns k ∨ (w.heap.size ≤ k ∧ k < w'.heap.size)) : FPost w b w' := fun _ => by
 refine ⟨g.mono (fun k _ hk => (zsg h.host.blk k).2 hk), fun k hk => ?_⟩
 rcases (zsg hb k).1 hk with h1 | h1 | h1
 · exact .inl (.inl h1)
 · rcases he k h1 with h2 | h2
   · exact .inl ((zsg h.host.blk k).2 (.inr (.inl h2)))
   · exact .inr h2
 · rcases hp k h1 with h2 | h2
   · exact .inl ((zsg h.host.blk k).2 (.inr (.inr h2)))
   · exact .inr h2
def DPost (w : World) (b : Nat) (own : Nat → Prop) (E : Em) (w' : World) : Prop := ∃ own', Gmt w' b own' E ∧ Kept own w w' ∧ (∀ k, own' k → own k ∨ (w.heap.size ≤ k ∧ k < w'.heap.size)) ∧ FPost w b w'
theorem DPost.of_grow {w w' : World} {b : Nat} {own : Nat → Prop} {E : Em} (h : Gmt w b own E) (g : Grow w w') : DPost w b own E w' := ⟨own, h.grow g, g.kept own, fun _ h => Or.inl h, .grow g⟩
theorem DPost.then {w w1 w2 : World} {b : Nat} {own own1 : Nat → Prop} {E2 : Em} (K1 : Kept own w w1) (O1 : ∀ k, own1 k → own k ∨ (w.heap.size ≤ k ∧ k < w1.heap.size)) (F1 : FPost w b w1) (h : DPost w1 b own1 E2 w2) : DPost w b own E2 w2 := by
 obtain ⟨own2, R2, K2, O2, F2⟩ := h
 refine ⟨own2, R2, K1.trans K2 (fun k hk h => ?_), fun k hk => ?_, F1.trans F2 K1.size⟩
 · rcases O1 k h with h1 | h1
   · exact h1
   · omega
 · rcases O2 k hk with h1 | h1
   · rcases O1 k h1 with h2 | h2
     · exact Or.inl h2
     · exact Or.inr ⟨h2.1, Nat.lt_of_lt_of_le h2.2 K2.size⟩
   · exact Or.inr ⟨Nat.le_trans K1.size h1.1, h1.2⟩
theorem DPost.trans {w w1 w2 : World} {b : Nat} {own : Nat → Prop} {E1 E2 : Em} (h : DPost w b own E1 w1) (g : ∀ own1, Gmt w1 b own1 E1 → DPost w1 b own1 E2 w2) : DPost w b own E2 w2 := by
 obtain ⟨own1, R1, K1, O1, F1⟩ := h
 exact DPost.then K1 O1 F1 (g own1 R1)
theorem DPost.low {w w1 w2 : World} {b : Nat} {own : Nat → Prop} {E : Em} (g : Grow w w1) (h : DPost w1 b own E w2) : DPost w b own E w2 := DPost.then (g.kept own) (fun _ h => Or.inl h) (.grow g) h
theorem DPost.more {w w1 w2 : World} {b : Nat} {own : Nat → Prop} {E : Em} (h : DPost w b own E w1) (g : Grow w1 w2) : DPost w b own E w2 := h.trans fun _ R => .of_grow R g
@[go_sem] theorem gR_0' (sd se sp : Sl) (n : Int) (h : 0 < (gR sd se sp n).size) : (gR sd se sp n)[0]'h = sd.val := rfl
@[go_sem] theorem gR_1' (sd se sp : Sl) (n : Int) (h : 1 < (gR sd se sp n).size) : (gR sd se sp n)[1]'h = se.val := rfl
@[go_sem] theorem gR_2' (sd se sp : Sl) (n : Int) (h : 2 < (gR sd se sp n).size) : (gR sd se sp n)[2]'h = sp.val := rfl
@[go_sem] theorem gR_3' (sd se sp : Sl) (n : Int) (h : 3 < (gR sd se sp n).size) : (gR sd se sp n)[3]'h = I n := rfl
theorem z8a (V : SV) (num : Nat → Int) (sd se sp : Sl) (n : Int) : (hoA V num (gR sd se sp n))[37]? = some sd.val := by rw [show 37 = 37 + 0 from rfl, zb5]; rfl
theorem z8b (V : SV) (num : Nat → Int) (sd se sp : Sl) (n : Int) : (hoA V num (gR sd se sp n))[38]? = some se.val := by rw [show 38 = 37 + 1 from rfl, zb5]; rfl
theorem z8c (V : SV) (num : Nat → Int) (sd se sp : Sl) (n : Int) : (hoA V num (gR sd se sp n))[39]? = some sp.val := by rw [show 39 = 37 + 2 from rfl, zb5]; rfl
@[go_sem] theorem ye5 (V : SV) (num : Nat → Int) (sd se sp s : Sl) (n : Int) : (hoA V num (gR sd se sp n)).setIfInBounds 38 s.val = hoA V num (gR sd s sp n) := by rw [show 38 = 37 + 1 from rfl, zb0]; rfl
@[go_sem] theorem ye6 (V : SV) (num : Nat → Int) (sd se sp s : Sl) (n : Int) : (hoA V num (gR sd se sp n)).setIfInBounds 39 s.val = hoA V num (gR sd se s n) := by rw [show 39 = 37 + 2 from rfl, zb0]; rfl
theorem zmj (V : SV) (num : Nat → Int) (sd se sp : Sl) (n m : Int) : (hoA V num (gR sd se sp n)).setIfInBounds 40 (I m) = hoA V num (gR sd se sp m) := by rw [show 40 = 37 + 3 from rfl, zb0]; rfl
theorem RepD.setErr {w : World} {b : Nat} {V : SV} {sd se sp : Sl} {E : Em} (h : RepD w b V sd se sp E) (m : Int) : RepD (w.setRow b (hoA V E.now.num (gR sd se sp m))) b V sd se sp { E with err := m } := by
 have k1 : Kept (fun k => k = b) w (w.setRow b (hoA V E.now.num (gR sd se sp m))) := (Kept.refl _ _).setRow b _ (fun _ => rfl)
 refine ⟨⟨by rw [za1 _ _ _ _ h.host.free, if_pos rfl], by rw [za7]; exact h.host.free, h.host.rep.kept k1 (fun k hk e => h.host.apart (by have e : k = b := e; rw [← e]; exact hk)), h.host.apart, fun k hk => by rw [size_setRow]; exact h.host.in' k hk⟩, ?_, ?_, ?_, ?_, ?_, ?_, ?_, ?_, h.apD, h.apE, h.apP, h.apVE, h.apDE, h.apEP⟩
 · exact h.drs.kept k1 (fun hl e => h.apD (by have e : sd.b = b := e; rw [← e]; exact zbk h.drs hl))
 · exact h.evs.kept k1 (fun hl e => h.apE (by have e : se.b = b := e; rw [← e]; exact zar h.evs hl))
 · exact h.evR.kept k1 (fun k hk e => h.apE (by have e : k = b := e; rw [← e]; exact hk))
 · exact h.pend.kept k1 (fun hl e => h.apP (by have e : sp.b = b := e; rw [← e]; exact zar h.pend hl))
 · exact h.pendR.kept k1 (fun k hk e => h.apP (by have e : k = b := e; rw [← e]; exact hk))
 · exact fun k hk => by rw [size_setRow]; exact h.inD k hk
 · exact fun k hk => by rw [size_setRow]; exact h.inE k hk
 · exact fun k hk => by rw [size_setRow]; exact h.inP k hk
theorem Gmt.setErr {w w' : World} {b : Nat} {own : Nat → Prop} {V : SV} {sd se sp : Sl} {E : Em} (h : RepD w b V sd se sp E) (ho : ∀ k, own k ↔ zvp b V sd se sp k) (m : Int) (g : Grow (w.setRow b (hoA V E.now.num (gR sd se sp m))) w') : DPost w b own { E with err := m } w' := by
 have k1 : Kept own w (w.setRow b (hoA V E.now.num (gR sd se sp m))) := (Kept.refl _ _).setRow b _ (fun _ => (ho b).2 (Or.inl rfl))
 exact ⟨own, ⟨V, sd, se, sp, (h.setErr m).kept (g.kept (fun _ => False)) (fun _ _ h => h), ho⟩, k1.trans (o2 := fun _ => False) (g.kept _) (fun _ _ h => h.elim), fun k hk => Or.inl hk, FPost.trans (h.step (V' := V) (num := E.now.num) (sd' := sd) (se' := se) (sp' := sp) (n := m) (by rw [za1 _ _ _ _ h.host.free, if_pos rfl]) ((Kept.refl _ _).setRow b _ (fun _ => .inl rfl)) (fun _ h => .inl h) (fun _ h => .inl h)) (.grow g) (by rw [size_setRow]; omega)⟩
structure TurnG (W : World) (b : Nat) (own : Nat → Prop) (E : Em) (wk : World) (ownk : Nat → Prop) : Prop where
 em : Gmt wk b ownk E
 kept : Kept own W wk
 own : ∀ j, ownk j → own j ∨ (W.heap.size ≤ j ∧ j < wk.heap.size)
 fine : FPost W b wk
theorem TurnG.first {W : World} {b : Nat} {own : Nat → Prop} {E : Em} (h : Gmt W b own E) : TurnG W b own E W own := ⟨h, Kept.refl _ _, fun _ h => Or.inl h, .grow (Grow.refl _)⟩
theorem TurnG.step {W wk wk' w2 : World} {b : Nat} {own ownk : Nat → Prop} {E E2 : Em} (h : TurnG W b own E wk ownk) (g : Grow wk wk') (e : DPost wk' b ownk E2 w2) : ∃ own2, TurnG W b own E2 w2 own2 := by
 obtain ⟨own2, r, k, o, f⟩ := DPost.then h.kept h.own h.fine (DPost.low g e)
 exact ⟨own2, r, k, o, f⟩
theorem TurnG.grow {W wk wk' : World} {b : Nat} {own ownk : Nat → Prop} {E : Em} (h : TurnG W b own E wk ownk) (g : Grow wk wk') : TurnG W b own E wk' ownk :=
 ⟨h.em.grow g, h.kept.trans (o2 := fun _ => False) (g.kept _) (fun _ _ h => h.elim), fun j hj => (h.own j hj).imp id (fun x => ⟨x.1, Nat.lt_of_lt_of_le x.2 g.size⟩), h.fine.trans (.grow g) h.kept.size⟩
theorem TurnG.post {W wk w : World} {b : Nat} {own ownk : Nat → Prop} {E : Em} (h : TurnG W b own E wk ownk) (g : Grow w W) : DPost w b own E wk := DPost.low g ⟨ownk, h.em, h.kept, h.own, h.fine⟩
theorem TurnG.mine {W wk : World} {b q : Nat} {own ownk : Nat → Prop} {E : Em} {cs : Array Value} (h : TurnG W b own E wk ownk) (m : Mine W own q cs) : Mine wk ownk q cs :=
 ⟨Nat.lt_of_lt_of_le m.lt h.kept.size, fun x => by
  rcases h.own q x with y | y
  · exact m.own y
  · have := m.lt; omega, by rw [h.kept.blk q m.lt m.own, m.blk], by rw [h.kept.free q m.lt m.own, m.free]⟩
theorem RepD.done {w w' : World} {b : Nat} {V V' : SV} {sd se sp : Sl} {E : Em} {S' : St} (h : RepD w b V sd se sp E) (hH : Host w' b V' S' (gR sd se sp E.err)) (g : Kept (fun k => k = b) w w') (hu : ∀ k, V'.uses k → V.uses k ∨ (w.heap.size ≤ k ∧ k < w'.heap.size)) :
 RepD w' b V' sd se sp { E with now := S' } := by
 refine ⟨hH, ?_, ?_, ?_, ?_, ?_, ?_, ?_, ?_, h.apD, h.apE, h.apP, fun k hk => ?_, h.apDE, h.apEP⟩
 · exact h.drs.kept g (fun hl e => h.apD (by have e : sd.b = b := e; rw [← e]; exact zbk h.drs hl))
 · exact h.evs.kept g (fun hl e => h.apE (by have e : se.b = b := e; rw [← e]; exact zar h.evs hl))
 · exact h.evR.kept g (fun k hk e => h.apE (by have e : k = b := e; rw [← e]; exact hk))
 · exact h.pend.kept g (fun hl e => h.apP (by have e : sp.b = b := e; rw [← e]; exact zar h.pend hl))
 · exact h.pendR.kept g (fun k hk e => h.apP (by have e : k = b := e; rw [← e]; exact hk))
 · exact fun k hk => Nat.lt_of_lt_of_le (h.inD k hk) g.size
 · exact fun k hk => Nat.lt_of_lt_of_le (h.inE k hk) g.size
 · exact fun k hk => Nat.lt_of_lt_of_le (h.inP k hk) g.size
 · rcases hu k hk with h1 | h1
   · exact h.apVE k h1
   · exact ⟨fun h2 => by have := h.inE k h2; omega, fun h2 => by have := h.inP k h2; omega⟩
structure GStep (w : World) (b : Nat) (V : SV) (sd se sp : Sl) (E : Em) (e : List Int) (w' : World) (s' : Sl) : Prop where
 blk : w'.blk b = hoA V E.now.num (gR sd se sp E.err)
 free : w'.free b = true
 evs : Rows' w' s' 6 (E.evs ++ [e])
 evR : Room w' s' 6
 kept : Kept se.owns w w'
 own : ∀ k, s'.owns k → se.owns k ∨ (w.heap.size ≤ k ∧ k < w'.heap.size)
theorem z51 {w W1 w' : World} {b : Nat} {V : SV} {sd se sp s' : Sl} {E : Em} {e : List Int} (R : RepD w b V sd se sp E) (he : e.length = 6) (g : Grow w W1) (c1 : Cells w' s' 6 (zci E.evs ++ zci [e])) (c2 : Room w' s' 6) (c3 : Kept se.owns W1 w')
 (c4 : ∀ k, s'.owns k → se.owns k ∨ (W1.heap.size ≤ k ∧ k < w'.heap.size)) : GStep w b V sd se sp E e w' s' := by
 have hl := R.host.lt
 have hg := R.host.grow g
 have hl1 := hg.lt
 refine ⟨by rw [c3.blk b hl1 R.apE, hg.blk], by rw [c3.free b hl1 R.apE]; exact hg.free, ?_, c2, (g.kept _).trans c3 (fun _ _ h => h), fun k hk => ?_⟩
 · exact Cells.rows (by rw [zdb]; exact c1) (by omega) (zfb R.evs.wid (fun i hi => by
    have : i = 0 := by simp at hi; omega
    subst this; exact he))
 · rcases c4 k hk with h | h
   · exact Or.inl h
   · exact Or.inr ⟨Nat.le_trans g.size h.1, h.2⟩
theorem GStep.post {w w' : World} {b : Nat} {own : Nat → Prop} {V : SV} {sd se sp s' : Sl} {E : Em} {e : List Int} (h : GStep w b V sd se sp E e w' s') (R : RepD w b V sd se sp E) (ho : ∀ k, own k ↔ zvp b V sd se sp k) :
 DPost w b own { E with evs := E.evs ++ [e] } (w'.setRow b (hoA V E.now.num (gR sd s' sp E.err))) := by
 have hl := R.host.lt
 have nb : ¬ s'.owns b := fun hb => by
  rcases h.own b hb with h1 | h1
  · exact R.apE h1
  · omega
 have k1 : Kept (fun k => k = b) w' (w'.setRow b (hoA V E.now.num (gR sd s' sp E.err))) := (Kept.refl _ _).setRow b _ (fun _ => rfl)
 have hlt : ∀ k, s'.owns k → k < w'.heap.size := fun k hk => by
  rcases h.own k hk with h1 | h1
  · have := R.inE k h1; have := h.kept.size; omega
  · exact h1.2
 have hV := R.host.rep.kept h.kept (fun k hk => (R.apVE k hk).1)
 have hsz := h.kept.size
 refine ⟨zvp b V sd s' sp, ⟨V, sd, s', sp, ⟨⟨by rw [za1 _ _ _ _ h.free, if_pos rfl], by rw [za7]; exact h.free, hV.kept k1 (fun k hk e => R.host.apart (by have e : k = b := e; rw [← e]; exact hk)), R.host.apart, fun k hk => ?_⟩, ?_, ?_, ?_, ?_, ?_, ?_, ?_, ?_, R.apD, nb, R.apP, fun k hk => ⟨fun h2 => ?_, (R.apVE k hk).2⟩, fun k hk => ⟨fun h2 => ?_, (R.apDE k hk).2⟩, fun k hk h2 => ?_⟩, fun _ => Iff.rfl⟩, ?_, fun k hk => ?_, ?_⟩
 · rw [size_setRow]; have := R.host.in' k hk; omega
 · exact (R.drs.kept h.kept (fun hl => (R.apDE _ (zbk R.drs hl)).1)).kept k1 (fun hl e => R.apD (by have e : sd.b = b := e; rw [← e]; exact zbk R.drs hl))
 · exact h.evs.kept k1 (fun hl e => nb (by have e : s'.b = b := e; rw [← e]; exact zar h.evs hl))
 · exact h.evR.kept k1 (fun k hk e => nb (by have e : k = b := e; rw [← e]; exact hk))
 · exact (R.pend.kept h.kept (fun hl h2 => R.apEP _ h2 (zar R.pend hl))).kept k1 (fun hl e => R.apP (by have e : sp.b = b := e; rw [← e]; exact zar R.pend hl))
 · exact (R.pendR.kept h.kept (fun k hk h2 => R.apEP _ h2 hk)).kept k1 (fun k hk e => R.apP (by have e : k = b := e; rw [← e]; exact hk))
 · exact fun k hk => by rw [size_setRow]; have := R.inD k hk; omega
 · exact fun k hk => by rw [size_setRow]; exact hlt k hk
 · exact fun k hk => by rw [size_setRow]; have := R.inP k hk; omega
 · rcases h.own k h2 with h1 | h1
   · exact (R.apVE k hk).1 h1
   · have := R.host.in' k hk; omega
 · rcases h.own k h2 with h1 | h1
   · exact (R.apDE k hk).1 h1
   · have := R.inD k hk; omega
 · rcases h.own k hk with h1 | h1
   · exact R.apEP k h1 h2
   · have := R.inP k h2; omega
 · exact (h.kept.mono (o2 := own) (fun k _ h => (ho k).2 (Or.inr (Or.inr (Or.inr (Or.inl h)))))).trans k1 (fun k _ e => (ho k).2 (Or.inl e))
 · rcases hk with h1 | h1 | h1 | h1 | h1
   · exact Or.inl ((ho k).2 (Or.inl h1))
   · exact Or.inl ((ho k).2 (Or.inr (Or.inl h1)))
   · exact Or.inl ((ho k).2 (Or.inr (Or.inr (Or.inl h1))))
   · rcases h.own k h1 with h2 | h2
     · exact Or.inl ((ho k).2 (Or.inr (Or.inr (Or.inr (Or.inl h2)))))
     · exact Or.inr ⟨h2.1, by rw [size_setRow]; exact h2.2⟩
   · exact Or.inl ((ho k).2 (Or.inr (Or.inr (Or.inr (Or.inr h1)))))
 · refine R.step (V' := V) (num := E.now.num) (n := E.err) (by rw [za1 _ _ _ _ h.free, if_pos rfl]) ((h.kept.mono (fun k _ hk => .inr (.inl hk))).setRow b _ (fun _ => .inl rfl)) (fun k hk => (h.own k hk).imp id (fun x => ⟨x.1, by rw [size_setRow]; exact x.2⟩)) (fun k hk => .inl hk)
theorem RepD.grow {w w' : World} {b : Nat} {V : SV} {sd se sp : Sl} {E : Em} (h : RepD w b V sd se sp E) (g : Grow w w') : RepD w' b V sd se sp E := h.kept (g.kept (fun _ => False)) (fun _ _ h => h)
structure GPend (w : World) (b : Nat) (V : SV) (sd se sp : Sl) (E : Em) (e : List Int) (w' : World) (s' : Sl) : Prop where
 blk : w'.blk b = hoA V E.now.num (gR sd se sp E.err)
 free : w'.free b = true
 pend : Rows' w' s' 3 (E.pend ++ [e])
 pendR : Room w' s' 3
 kept : Kept sp.owns w w'
 own : ∀ k, s'.owns k → sp.owns k ∨ (w.heap.size ≤ k ∧ k < w'.heap.size)
theorem ybg {w W1 w' : World} {b : Nat} {V : SV} {sd se sp s' : Sl} {E : Em} {e : List Int} (R : RepD w b V sd se sp E) (he : e.length = 3) (g : Grow w W1) (c1 : Cells w' s' 3 (zci E.pend ++ zci [e])) (c2 : Room w' s' 3) (c3 : Kept sp.owns W1 w')
 (c4 : ∀ k, s'.owns k → sp.owns k ∨ (W1.heap.size ≤ k ∧ k < w'.heap.size)) : GPend w b V sd se sp E e w' s' := by
 have hl := R.host.lt
 have hg := R.host.grow g
 have hl1 := hg.lt
 refine ⟨by rw [c3.blk b hl1 R.apP, hg.blk], by rw [c3.free b hl1 R.apP]; exact hg.free, ?_, c2, (g.kept _).trans c3 (fun _ _ h => h), fun k hk => ?_⟩
 · exact Cells.rows (by rw [zdb]; exact c1) (by omega) (zfb R.pend.wid (fun i hi => by
    have : i = 0 := by simp at hi; omega
    subst this; exact he))
 · rcases c4 k hk with h | h
   · exact Or.inl h
   · exact Or.inr ⟨Nat.le_trans g.size h.1, h.2⟩
theorem GPend.post {w w' : World} {b : Nat} {own : Nat → Prop} {V : SV} {sd se sp s' : Sl} {E : Em} {e : List Int} (h : GPend w b V sd se sp E e w' s') (R : RepD w b V sd se sp E) (ho : ∀ k, own k ↔ zvp b V sd se sp k) :
 DPost w b own { E with pend := E.pend ++ [e] } (w'.setRow b (hoA V E.now.num (gR sd se s' E.err))) := by
 have hl := R.host.lt
 have nb : ¬ s'.owns b := fun hb => by
  rcases h.own b hb with h1 | h1
  · exact R.apP h1
  · omega
 have k1 : Kept (fun k => k = b) w' (w'.setRow b (hoA V E.now.num (gR sd se s' E.err))) := (Kept.refl _ _).setRow b _ (fun _ => rfl)
 have hlt : ∀ k, s'.owns k → k < w'.heap.size := fun k hk => by
  rcases h.own k hk with h1 | h1
  · have := R.inP k h1; have := h.kept.size; omega
  · exact h1.2
 have hV := R.host.rep.kept h.kept (fun k hk => (R.apVE k hk).2)
 have hsz := h.kept.size
 refine ⟨zvp b V sd se s', ⟨V, sd, se, s', ⟨⟨by rw [za1 _ _ _ _ h.free, if_pos rfl], by rw [za7]; exact h.free, hV.kept k1 (fun k hk e => R.host.apart (by have e : k = b := e; rw [← e]; exact hk)), R.host.apart, fun k hk => ?_⟩, ?_, ?_, ?_, ?_, ?_, ?_, ?_, ?_, R.apD, R.apE, nb, fun k hk => ⟨(R.apVE k hk).1, fun h2 => ?_⟩, fun k hk => ⟨(R.apDE k hk).1, fun h2 => ?_⟩, fun k hk h2 => ?_⟩, fun _ => Iff.rfl⟩, ?_, fun k hk => ?_, ?_⟩
 · rw [size_setRow]; have := R.host.in' k hk; omega
 · exact (R.drs.kept h.kept (fun hl => (R.apDE _ (zbk R.drs hl)).2)).kept k1 (fun hl e => R.apD (by have e : sd.b = b := e; rw [← e]; exact zbk R.drs hl))
 · exact (R.evs.kept h.kept (fun hl => R.apEP _ (zar R.evs hl))).kept k1 (fun hl e => R.apE (by have e : se.b = b := e; rw [← e]; exact zar R.evs hl))
 · exact (R.evR.kept h.kept (fun k hk => R.apEP _ hk)).kept k1 (fun k hk e => R.apE (by have e : k = b := e; rw [← e]; exact hk))
 · exact h.pend.kept k1 (fun hl e => nb (by have e : s'.b = b := e; rw [← e]; exact zar h.pend hl))
 · exact h.pendR.kept k1 (fun k hk e => nb (by have e : k = b := e; rw [← e]; exact hk))
 · exact fun k hk => by rw [size_setRow]; have := R.inD k hk; omega
 · exact fun k hk => by rw [size_setRow]; have := R.inE k hk; omega
 · exact fun k hk => by rw [size_setRow]; exact hlt k hk
 · rcases h.own k h2 with h1 | h1
   · exact (R.apVE k hk).2 h1
   · have := R.host.in' k hk; omega
 · rcases h.own k h2 with h1 | h1
   · exact (R.apDE k hk).2 h1
   · have := R.inD k hk; omega
 · rcases h.own k h2 with h1 | h1
   · exact R.apEP k hk h1
   · have := R.inE k hk; omega
 · exact (h.kept.mono (o2 := own) (fun k _ h => (ho k).2 (Or.inr (Or.inr (Or.inr (Or.inr h)))))).trans k1 (fun k _ e => (ho k).2 (Or.inl e))
 · rcases hk with h1 | h1 | h1 | h1 | h1
   · exact Or.inl ((ho k).2 (Or.inl h1))
   · exact Or.inl ((ho k).2 (Or.inr (Or.inl h1)))
   · exact Or.inl ((ho k).2 (Or.inr (Or.inr (Or.inl h1))))
   · exact Or.inl ((ho k).2 (Or.inr (Or.inr (Or.inr (Or.inl h1)))))
   · rcases h.own k h1 with h2 | h2
     · exact Or.inl ((ho k).2 (Or.inr (Or.inr (Or.inr (Or.inr h2)))))
     · exact Or.inr ⟨h2.1, by rw [size_setRow]; exact h2.2⟩
 · refine R.step (V' := V) (num := E.now.num) (n := E.err) (by rw [za1 _ _ _ _ h.free, if_pos rfl]) ((h.kept.mono (fun k _ hk => .inr (.inr hk))).setRow b _ (fun _ => .inl rfl)) (fun k hk => .inl hk) (fun k hk => (h.own k hk).imp id (fun x => ⟨x.1, by rw [size_setRow]; exact x.2⟩))
end Go.Proofs.YtgobdndjemicjaaGreatDoor
namespace Go.Proofs.YtgobdndjemicjaaGreatDoor
open Go Go.RowKit Go.Shelf
theorem RepD.cells {w : World} {b : Nat} {V : SV} {sd se sp : Sl} {E : Em} (h : RepD w b V sd se sp E) : w.cell? ⟨b, 37, none⟩ = some sd.val ∧ w.cell? ⟨b, 38, none⟩ = some se.val ∧ w.cell? ⟨b, 39, none⟩ = some sp.val ∧ w.cell? ⟨b, 40, none⟩ = some (I E.err) := by
 have hc := zae h.host.free h.host.blk
 refine ⟨(hc 37).trans (z8a _ _ _ _ _ _), (hc 38).trans (z8b _ _ _ _ _ _), (hc 39).trans (z8c _ _ _ _ _ _), (hc 40).trans ?_⟩
 rw [show 40 = 37 + 3 from rfl, zb5]; rfl
theorem zns {E : Em} (h : E.err ≠ 0) (e : List Int) : E.do1 e = E := by unfold Em.do1; rw [if_pos h]
set_option maxRecDepth 100000 in
set_option maxHeartbeats 4000000 in
theorem z52 (w : World) (b : Nat) (own : Nat → Prop) (E : Em) (R : Gmt w b own E) (hev : E.err = 0 → E.evs.length < 65536) (e : List Int) (he : e.length = 6) (hA : ∀ (V : SV) (W : World), RepSt W V E.now → Calls Tryz.prog 171 #[.agg (stA V E.now.num), .agg (cellsOf e)] W (zdq W (zd5 E.now e))) :
 Calls Tryz.prog 117 #[.pointer (some ⟨b, 0, none⟩), .agg (cellsOf e)] w fun r w' => r = .returned (.tuple #[]) ∧ DPost w b own (E.do1 e) w' := by
 have HR0 := Lib.hid R
 obtain ⟨V, sd, se, sp, hr, ho⟩ := R
 have hH := hr.host
 obtain ⟨_, hc38, _, hc40⟩ := hr.cells
 have hcell := zae (hH).free (hH).blk; have hfz := zag (hH).free; have hset := zah (hH).free (hH).blk; have hblk := (hH).blk; have hfree := (hH).free; have hlt := (hH).lt; have hne1 : ¬ b = (w).heap.size := (by omega); have hne2 : ¬ (w).heap.size = b := (by omega)
 have HR := Lib.hid hr
 have HO := Lib.hid ho
 have hsn := hr.evs.len
 have HAp := Lib.hid (fun W (g : Grow w W) => hA V W (hr.host.rep.grow g))
 by_cases hz : E.err = 0
 · have hev1 := hev hz
   rw [hz] at hc40
   cases hd : zd5 E.now e with
   | error n =>
     have hn := zgq hd
     have hnb : (n == 0) = false := by simpa using hn
     have hnb2 : (n != 0) = true := by simpa using hn
     have h1 : E.do1 e = { E with err := n } := by unfold Em.do1; rw [if_neg (by rw [hz]; simp), hd]
     rw [hd] at HAp
     have hs := hset 40 (I n)
     rw [zmj] at hs
     rw [h1]
     clear hr ho hH hset hcell hd hn h1 hz hA hev
     go_enter Tryz.func117, Tryz.ntmps117
     go_wp2_with fail
     go_region_held3 (fun W => W.blk b = hoA V E.now.num (gR sd se sp E.err) ∧ W.blk w.heap.size = cellsOf e) (simp [go_sem, *]) (first | (go_at_call 171; refine (HAp.out _ grI).mono ?_; rintro r w' ⟨rfl, nx, rfl⟩))
     all_goals
      go_wp2_with fail
      refine bodyPost_ret (results_none rfl _ _ _) rfl ?_
      exact ⟨rfl, Gmt.setErr HR.out HO.out n grI⟩
   | ok S' =>
     have h1 : E.do1 e = { E with now := S', evs := E.evs ++ [e] } := by unfold Em.do1; rw [if_neg (by rw [hz]; simp), hd]; exact if_pos hev1
     rw [hd] at HAp
     rw [h1]
     have hev2 : (E.evs.length : Int) < 65536 := by omega
     have hev3 : ((65536 : Int) ≤ (E.evs.length : Int)) = False := by simp; omega
     have hev4 : (65536 ≤ E.evs.length) = False := by simp; omega
     clear hr ho hH hset hcell hd h1 hz hA hev
     go_enter Tryz.func117, Tryz.ntmps117
     go_wp2_with fail
     go_region_held3 (fun W => W.blk b = hoA V E.now.num (gR sd se sp E.err) ∧ W.blk w.heap.size = cellsOf e) (simp [go_sem, *]) (first | (go_at_call 171; refine (HAp.out _ grI).mono ?_; rintro r w' ⟨V', rfl, hR', hu, nx, rfl⟩; (try simp only [zad] at hR'); (try simp only [zac] at hR'); have HR2 := Lib.hid hR'; have HU := Lib.hid hu; clear hR' hu))
     · have hG1 : Grow w (((w.alloc (.cells (cellsOf e) 122)).plus nx.late).alloc (.cells (stA V' S'.num) 29)) := grI
       have hR1 : RepSt (((w.alloc (.cells (cellsOf e) 122)).plus nx.late).alloc (.cells (stA V' S'.num) 29)) V' S' := HR2.out.grow grI
       have hU1 : ∀ k, V'.uses k → w.heap.size ≤ k ∧ k < (((w.alloc (.cells (cellsOf e) 122)).plus nx.late).alloc (.cells (stA V' S'.num) 29)).heap.size := fun k hk => by have := HU.out k hk; simp only [zad, zab, zaa, Ext.late] at this ⊢; rw [show ∀ (W : World), W.drew.heap.size = W.heap.size from fun _ => rfl] at this; simp only [zaa] at this; exact ⟨by omega, by omega⟩
       have hq1 : (((w.alloc (.cells (cellsOf e) 122)).plus nx.late).alloc (.cells (stA V' S'.num) 29)).blk (w.heap.size + 1 + nx.late.objs.size) = stA V' S'.num := by go_simp
       have hq2 : (((w.alloc (.cells (cellsOf e) 122)).plus nx.late).alloc (.cells (stA V' S'.num) 29)).blk w.heap.size = cellsOf e := by go_simp
       have hq3 : (((w.alloc (.cells (cellsOf e) 122)).plus nx.late).alloc (.cells (stA V' S'.num) 29)).free w.heap.size = true := by go_simp
       have hq4 : w.heap.size < (((w.alloc (.cells (cellsOf e) 122)).plus nx.late).alloc (.cells (stA V' S'.num) 29)).heap.size := by simp only [zab, zaa]; omega
       have hq5 : (w.heap.size + 1 + nx.late.objs.size) < (((w.alloc (.cells (cellsOf e) 122)).plus nx.late).alloc (.cells (stA V' S'.num) 29)).heap.size := by simp only [zab, zaa]; omega
       have hq6 : ¬ (w.heap.size + 1 + nx.late.objs.size) = b := by omega
       have hq7 : ¬ (w.heap.size + 1 + nx.late.objs.size) = w.heap.size := by omega
       have hq8 : ¬ b = (w.heap.size + 1 + nx.late.objs.size) := by omega
       clear HR2 HU
       generalize (((w.alloc (.cells (cellsOf e) 122)).plus nx.late).alloc (.cells (stA V' S'.num) 29)) = W1 at *
       generalize (w.heap.size + 1 + nx.late.objs.size) = b4 at *
       have hG2 := HR.out.grow hG1
       have hst := ze2 W1 b V V' E.now.num S'.num (gR sd se sp E.err) hG2.host.blk hG2.host.free
       have kk : Kept (fun k => k = b) w (W1.setRow b (hoA V' S'.num (gR sd se sp E.err))) := (hG1.kept _).setRow b _ (fun _ => rfl)
       have k1 : Kept (fun k => k = b) W1 (W1.setRow b (hoA V' S'.num (gR sd se sp E.err))) := (Kept.refl _ _).setRow b _ (fun _ => rfl)
       have hnb : ¬ V'.uses b := fun hu => by have := (hU1 b hu).1; omega
       have hd2 : RepD (W1.setRow b (hoA V' S'.num (gR sd se sp E.err))) b V' sd se sp { E with now := S' } := HR.out.done ⟨by rw [za1 _ _ _ _ hG2.host.free, if_pos rfl], by rw [za7]; exact hG2.host.free, hR1.kept k1 (fun k hk (ek : k = b) => hnb (ek ▸ hk)), hnb, fun k hk => by rw [size_setRow]; exact (hU1 k hk).2⟩ kk (fun k hk => .inr ⟨(hU1 k hk).1, by rw [size_setRow]; exact (hU1 k hk).2⟩)
       have hF2 : FPost w b (W1.setRow b (hoA V' S'.num (gR sd se sp E.err))) := HR.out.step (by rw [za1 _ _ _ _ hG2.host.free, if_pos rfl]) (kk.mono fun k _ ek => .inl ek) (fun _ h => .inl h) (fun _ h => .inl h)
       have hK2 : Kept own w (W1.setRow b (hoA V' S'.num (gR sd se sp E.err))) := kk.mono (fun k _ ek => (HO.out k).2 (.inl ek))
       have hO2 : ∀ k, zvp b V' sd se sp k → own k ∨ (w.heap.size ≤ k ∧ k < (W1.setRow b (hoA V' S'.num (gR sd se sp E.err))).heap.size) := fun k hk => by
        rcases hk with h | h | h | h | h
        · exact .inl ((HO.out k).2 (.inl h))
        · exact .inr ⟨(hU1 k h).1, by rw [size_setRow]; exact (hU1 k h).2⟩
        · exact .inl ((HO.out k).2 (.inr (.inr (.inl h))))
        · exact .inl ((HO.out k).2 (.inr (.inr (.inr (.inl h)))))
        · exact .inl ((HO.out k).2 (.inr (.inr (.inr (.inr h)))))
       obtain ⟨_, hd38, _, hd40⟩ := hG2.cells
       have hp2 : (W1.setRow b (hoA V' S'.num (gR sd se sp E.err))).blk w.heap.size = cellsOf e := by rw [za1 _ _ _ _ hG2.host.free, if_neg hne2]; exact hq2
       have hp3 : (W1.setRow b (hoA V' S'.num (gR sd se sp E.err))).free w.heap.size = true := by rw [za7]; exact hq3
       have hp4 : (W1.setRow b (hoA V' S'.num (gR sd se sp E.err))).heap.size = W1.heap.size := size_setRow _ _ _
       generalize W1.setRow b (hoA V' S'.num (gR sd se sp E.err)) = W2 at *
       have hH2 := hd2.host
       have hcell2 := zae hH2.free hH2.blk
       have hfz2 := zag hH2.free
       have hset2 := zah hH2.free hH2.blk
       have hfree2 := hH2.free
       have hlt2 := hH2.lt
       have hsen : se.n = E.evs.length := hd2.evs.len
       obtain ⟨_, he38, _, _⟩ := hd2.cells
       have hne3 : ¬ b = W2.heap.size := by omega
       have hne4 : ¬ W2.heap.size = b := by omega
       have hne5 : ¬ w.heap.size = W2.heap.size := by omega
       have hqs : w.heap.size < W2.heap.size := by omega
       have HRd := Lib.hid hd2
       have HK2 := Lib.hid hK2
       have HF2 := Lib.hid hF2
       have HO2 := Lib.hid hO2
       clear hp4 hd2 hF2 hK2 hO2 hH2 hR1 hU1 hnb kk k1 hG1 hG2 hfz hblk hfree HR HO HR0 HAp
       go_wp2_with fail
       go_region_law (first | ((refine zcl (by rfl) _ _ 90 (by rfl) 122 Tryz.t122 (.agg (cellsOf (List.replicate 6 0))) 6 48 Tryz.underlying90 (by kernel_rfl) (by kernel_rfl) (by kernel_rfl) (by kernel_rfl) (by omega) rfl se (.mk _ 0 1 1) (zci E.evs) (zci [e]) (by rfl) (by rfl) (HRd.out.evs.cells.grow grI) (HRd.out.evR.grow grI) (zdc _ _ 6 e he (by go_simp)) (zay _) (zay _) (by rw [hsen]; show E.evs.length + 1 ≤ 4194304; omega) ?_; intro s' w' c1 c2 c3 c4 c5 c6; have hS := z51 HRd.out he grI c1 c2 c3 c4; have hq3 := hS.blk; have hqf3 := hS.free; have hqc := zae hqf3 hq3; have hqz := zag hqf3; have hqs3 := zah hqf3 hq3; have HS := Lib.hid hS; clear hS hq3 c1 c2 c3 c4 c5 c6)))
       all_goals
        go_wp2_with fail
        go_end0
        exact ⟨rfl, DPost.then HK2.out HO2.out HF2.out (HS.out.post HRd.out (fun _ => Iff.rfl))⟩
     · have hG1 : Grow w (((w.alloc (.cells (cellsOf e) 122)).alloc (.cells (stA V' S'.num) 29)).plus nx.late) := grI
       have hR1 : RepSt (((w.alloc (.cells (cellsOf e) 122)).alloc (.cells (stA V' S'.num) 29)).plus nx.late) V' S' := HR2.out.off12 (b := w.heap.size + 1) (by repeat (first | exact Off.base _ _ _ _ (by simp only [zaa]) | refine Off.plus ?_ _ | refine Off.alloc ?_ _)) (fun hu => by have := (HU.out _ hu).1; rw [show ∀ (W : World), W.drew.heap.size = W.heap.size from fun _ => rfl] at this; simp only [zaa] at this; omega)
       have hU1 : ∀ k, V'.uses k → w.heap.size ≤ k ∧ k < (((w.alloc (.cells (cellsOf e) 122)).alloc (.cells (stA V' S'.num) 29)).plus nx.late).heap.size := fun k hk => by have := HU.out k hk; simp only [zad, zab, zaa, Ext.late] at this ⊢; rw [show ∀ (W : World), W.drew.heap.size = W.heap.size from fun _ => rfl] at this; simp only [zaa] at this; exact ⟨by omega, by omega⟩
       have hq1 : (((w.alloc (.cells (cellsOf e) 122)).alloc (.cells (stA V' S'.num) 29)).plus nx.late).blk (w.heap.size + 1) = stA V' S'.num := by go_simp
       have hq2 : (((w.alloc (.cells (cellsOf e) 122)).alloc (.cells (stA V' S'.num) 29)).plus nx.late).blk w.heap.size = cellsOf e := by go_simp
       have hq3 : (((w.alloc (.cells (cellsOf e) 122)).alloc (.cells (stA V' S'.num) 29)).plus nx.late).free w.heap.size = true := by go_simp
       have hq4 : w.heap.size < (((w.alloc (.cells (cellsOf e) 122)).alloc (.cells (stA V' S'.num) 29)).plus nx.late).heap.size := by simp only [zab, zaa]; omega
       have hq5 : (w.heap.size + 1) < (((w.alloc (.cells (cellsOf e) 122)).alloc (.cells (stA V' S'.num) 29)).plus nx.late).heap.size := by simp only [zab, zaa]; omega
       have hq6 : ¬ (w.heap.size + 1) = b := by omega
       have hq7 : ¬ (w.heap.size + 1) = w.heap.size := by omega
       have hq8 : ¬ b = (w.heap.size + 1) := by omega
       clear HR2 HU
       generalize (((w.alloc (.cells (cellsOf e) 122)).alloc (.cells (stA V' S'.num) 29)).plus nx.late) = W1 at *
       generalize (w.heap.size + 1) = b4 at *
       have hG2 := HR.out.grow hG1
       have hst := ze2 W1 b V V' E.now.num S'.num (gR sd se sp E.err) hG2.host.blk hG2.host.free
       have kk : Kept (fun k => k = b) w (W1.setRow b (hoA V' S'.num (gR sd se sp E.err))) := (hG1.kept _).setRow b _ (fun _ => rfl)
       have k1 : Kept (fun k => k = b) W1 (W1.setRow b (hoA V' S'.num (gR sd se sp E.err))) := (Kept.refl _ _).setRow b _ (fun _ => rfl)
       have hnb : ¬ V'.uses b := fun hu => by have := (hU1 b hu).1; omega
       have hd2 : RepD (W1.setRow b (hoA V' S'.num (gR sd se sp E.err))) b V' sd se sp { E with now := S' } := HR.out.done ⟨by rw [za1 _ _ _ _ hG2.host.free, if_pos rfl], by rw [za7]; exact hG2.host.free, hR1.kept k1 (fun k hk (ek : k = b) => hnb (ek ▸ hk)), hnb, fun k hk => by rw [size_setRow]; exact (hU1 k hk).2⟩ kk (fun k hk => .inr ⟨(hU1 k hk).1, by rw [size_setRow]; exact (hU1 k hk).2⟩)
       have hF2 : FPost w b (W1.setRow b (hoA V' S'.num (gR sd se sp E.err))) := HR.out.step (by rw [za1 _ _ _ _ hG2.host.free, if_pos rfl]) (kk.mono fun k _ ek => .inl ek) (fun _ h => .inl h) (fun _ h => .inl h)
       have hK2 : Kept own w (W1.setRow b (hoA V' S'.num (gR sd se sp E.err))) := kk.mono (fun k _ ek => (HO.out k).2 (.inl ek))
       have hO2 : ∀ k, zvp b V' sd se sp k → own k ∨ (w.heap.size ≤ k ∧ k < (W1.setRow b (hoA V' S'.num (gR sd se sp E.err))).heap.size) := fun k hk => by
        rcases hk with h | h | h | h | h
        · exact .inl ((HO.out k).2 (.inl h))
        · exact .inr ⟨(hU1 k h).1, by rw [size_setRow]; exact (hU1 k h).2⟩
        · exact .inl ((HO.out k).2 (.inr (.inr (.inl h))))
        · exact .inl ((HO.out k).2 (.inr (.inr (.inr (.inl h)))))
        · exact .inl ((HO.out k).2 (.inr (.inr (.inr (.inr h)))))
       obtain ⟨_, hd38, _, hd40⟩ := hG2.cells
       have hp2 : (W1.setRow b (hoA V' S'.num (gR sd se sp E.err))).blk w.heap.size = cellsOf e := by rw [za1 _ _ _ _ hG2.host.free, if_neg hne2]; exact hq2
       have hp3 : (W1.setRow b (hoA V' S'.num (gR sd se sp E.err))).free w.heap.size = true := by rw [za7]; exact hq3
       have hp4 : (W1.setRow b (hoA V' S'.num (gR sd se sp E.err))).heap.size = W1.heap.size := size_setRow _ _ _
       generalize W1.setRow b (hoA V' S'.num (gR sd se sp E.err)) = W2 at *
       have hH2 := hd2.host
       have hcell2 := zae hH2.free hH2.blk
       have hfz2 := zag hH2.free
       have hset2 := zah hH2.free hH2.blk
       have hfree2 := hH2.free
       have hlt2 := hH2.lt
       have hsen : se.n = E.evs.length := hd2.evs.len
       obtain ⟨_, he38, _, _⟩ := hd2.cells
       have hne3 : ¬ b = W2.heap.size := by omega
       have hne4 : ¬ W2.heap.size = b := by omega
       have hne5 : ¬ w.heap.size = W2.heap.size := by omega
       have hqs : w.heap.size < W2.heap.size := by omega
       have HRd := Lib.hid hd2
       have HK2 := Lib.hid hK2
       have HF2 := Lib.hid hF2
       have HO2 := Lib.hid hO2
       clear hp4 hd2 hF2 hK2 hO2 hH2 hR1 hU1 hnb kk k1 hG1 hG2 hfz hblk hfree HR HO HR0 HAp
       go_wp2_with fail
       go_region_law (first | ((refine zcl (by rfl) _ _ 90 (by rfl) 122 Tryz.t122 (.agg (cellsOf (List.replicate 6 0))) 6 48 Tryz.underlying90 (by kernel_rfl) (by kernel_rfl) (by kernel_rfl) (by kernel_rfl) (by omega) rfl se (.mk _ 0 1 1) (zci E.evs) (zci [e]) (by rfl) (by rfl) (HRd.out.evs.cells.grow grI) (HRd.out.evR.grow grI) (zdc _ _ 6 e he (by go_simp)) (zay _) (zay _) (by rw [hsen]; show E.evs.length + 1 ≤ 4194304; omega) ?_; intro s' w' c1 c2 c3 c4 c5 c6; have hS := z51 HRd.out he grI c1 c2 c3 c4; have hq3 := hS.blk; have hqf3 := hS.free; have hqc := zae hqf3 hq3; have hqz := zag hqf3; have hqs3 := zah hqf3 hq3; have HS := Lib.hid hS; clear hS hq3 c1 c2 c3 c4 c5 c6)))
       all_goals
        go_wp2_with fail
        go_end0
        exact ⟨rfl, DPost.then HK2.out HO2.out HF2.out (HS.out.post HRd.out (fun _ => Iff.rfl))⟩
 · have hzb : (E.err != 0) = true := by simpa using hz
   rw [zns hz]
   clear hr ho hH hset hcell hz hA hev
   go_enter Tryz.func117, Tryz.ntmps117
   go_wp2_with fail
   refine bodyPost_ret (results_none rfl _ _ _) rfl ?_
   exact ⟨rfl, .of_grow HR0.out grI⟩
theorem zp0 (w : World) (b : Nat) (own : Nat → Prop) (E : Em) (R : Gmt w b own E) (hS : Small E.now) (hev : E.err = 0 → E.evs.length < 65536) (e : List Int) (he : e.length = 6) (k0 : gt e 0 ≠ 0) (k5 : gt e 0 ≠ 5) :
 Calls Tryz.prog 117 #[.pointer (some ⟨b, 0, none⟩), .agg (cellsOf e)] w fun r w' => r = .returned (.tuple #[]) ∧ DPost w b own (E.do1 e) w' :=
 z52 w b own E R hev e he (fun V W r => zwh E.now V e he W r hS k0 k5)
end Go.Proofs.YtgobdndjemicjaaGreatDoor
namespace Go.Proofs.YtgobdndjemicjaaGreatDoor
open Go Go.RowKit Go.Shelf
@[go_sem] theorem z0k (w : World) (a f n : Int) : (za2 122 #[(0, .int .i64 2), (1, .int .i64 a), (2, .int .i64 f), (4, .int .i64 n)]).run Tryz.prog w = .ok (.value (.agg (cellsOf [2, a, f, 0, n, 0]))) w := by kernel_rfl
@[go_sem] theorem zyj (w : World) (f n : Int) : (za2 122 #[(0, .int .i64 4), (2, .int .i64 f), (4, .int .i64 n)]).run Tryz.prog w = .ok (.value (.agg (cellsOf [4, 0, f, 0, n, 0]))) w := by kernel_rfl
set_option maxRecDepth 100000 in
set_option maxHeartbeats 4000000 in
theorem zme (w : World) (b : Nat) (own : Nat → Prop) (E : Em) (R : Gmt w b own E) (hS : Small E.now) (hev : E.err = 0 → E.evs.length < 65536) (a f : Nat) (v : Int) (ha : a < E.now.objs.length) (hf : f < 18) (h3 : f ≠ 3) (hv : -1073741824 ≤ v ∧ v ≤ 1073741824) :
 Calls Tryz.prog 61 #[.pointer (some ⟨b, 0, none⟩), .int .i64 (a : Int), .int .i64 (f : Int), .int .i64 v] w fun r w' => r = .returned (.tuple #[]) ∧ DPost w b own (E.setObj a f v) w' := by
 have HR0 := Lib.hid R
 have HCk := Lib.hid (fun W => by have := zb7 [2, (a : Int), (f : Int), 0, v, 0] rfl W; rw [zff a f 0 v hf h3 hv] at this; exact this)
 have HD := Lib.hid (fun W (g : Grow w W) u => zp0 W b own E (R.grow g) hS hev [2, (a : Int), (f : Int), u, v, 0] rfl (by simp [gt]) (by simp [gt]))
 have HT := Lib.hid (zlz E a f v ha hf h3 hv)
 have h2 := fun (h : E.err ≠ 0) e => zns h e
 have HE := Lib.hid h2
 obtain ⟨V, sd, se, sp, hr, ho⟩ := R
 have hoc := hr.host.rep.objs.cell a f ha (by omega)
 have hN := hr.host.rep.objs.len
 have hob := (zaz hoc).1
 have hH := hr.host
 have hcell := zae (hH).free (hH).blk; have hfz := zag (hH).free; have hset := zah (hH).free (hH).blk; have hblk := (hH).blk; have hfree := (hH).free; have hlt := (hH).lt; have hne1 : ¬ b = (w).heap.size := (by omega); have hne2 : ¬ (w).heap.size = b := (by omega)
 have ha1 : (a : Int) < (E.now.objs.length : Int) := by omega
 have ha0 : (0 : Int) ≤ (a : Int) := by omega
 have hf1 : (f : Int) < 18 := by omega
 have hf0 : (0 : Int) ≤ (f : Int) := by omega
 clear hr ho hH hblk hS hev h2 hset
 generalize gt (rowAt E.now.objs a) f = u at *
 by_cases hx : u = v
 · have hT2 : Hid (E.setObj a f v = E) := by rw [Hid, HT.out, if_pos hx]; split <;> rfl
   have hxb : (u == v) = true := by simpa using hx
   clear hx
   rw [hT2.out]
   have hg : gt [2, (a : Int), (f : Int), u, v, 0] 3 = u := rfl
   go_enter Tryz.func61, Tryz.ntmps61
   go_wp2_with (go_at_call 116; refine (HCk.out _).mono ?_; rintro e' w' ⟨rfl, nx, rfl⟩)
   refine bodyPost_ret (results_none rfl _ _ _) rfl ?_
   exact ⟨rfl, .of_grow HR0.out grI⟩
 · have hT2 : Hid (E.setObj a f v = E.do1 [2, (a : Int), (f : Int), u, v, 0]) := by
    rw [Hid, HT.out, if_neg hx]
    split
    · rw [HE.out (by assumption)]
    · rfl
   have hxb : (u == v) = false := by simpa using hx
   clear hx
   rw [hT2.out]
   have hg : gt [2, (a : Int), (f : Int), u, v, 0] 3 = u := rfl
   go_enter Tryz.func61, Tryz.ntmps61
   go_wp2_with (first | (go_at_call 116; refine (HCk.out _).mono ?_; rintro e' w' ⟨rfl, nx, rfl⟩) | (go_at_call 117; refine (HD.out _ grI u).mono ?_; rintro r w' ⟨rfl, hP⟩; have HP := Lib.hid hP; clear hP))
   go_end0
   exact ⟨rfl, DPost.low grI HP.out⟩
end Go.Proofs.YtgobdndjemicjaaGreatDoor
namespace Go.Proofs.YtgobdndjemicjaaGreatDoor
open Go Go.RowKit Go.Shelf
@[go_sem ↓] theorem z9y (ρ : Operand → Value) (dst : Option Tmp) (parts : Array (Nat × Operand)) (ty : TypeId) (pos : String) (after : Array Edge) (guard : Option (Nat × Bool)) :
 execOp ρ { dst, op := .build 102 parts, type := ty, pos, after, guard } = za2 102 (parts.map fun (i, x) => (i, ρ x)) := rfl
set_option maxRecDepth 100000 in
@[go_sem] theorem z0l (w : World) (V : SV) (num : Nat → Int) (n : Int) : (za2 102 #[(0, .agg (stA V num)), (1, .slice none 0 0), (4, .int .i64 n)]).run Tryz.prog w = .ok (.value (.agg (hoA V num (gR .nil .nil .nil n)))) w := by
 unfold gR
 kernel_rfl
theorem z7x {w : World} {S : St} {V' : SV} {t : TypeId} (n : Int) (hR : RepSt w V' S) (hU : ∀ k, V'.uses k → k < w.heap.size) :
 Gmt (w.alloc (.cells (hoA V' S.num (gR .nil .nil .nil n)) t)) w.heap.size (zvp w.heap.size V' .nil .nil .nil) ⟨S, [], [], [], n⟩ := by
 have hg : Grow w (w.alloc (.cells (hoA V' S.num (gR .nil .nil .nil n)) t)) := (Grow.refl _).alloc _
 refine ⟨V', .nil, .nil, .nil, ⟨⟨by rw [zct, if_pos rfl], by rw [zc6, if_pos rfl]; rfl, hR.grow hg, fun h => ?_, fun k hk => ?_⟩, Ints.nil _, Rows'.nil _ _, Room.nil _ _, Rows'.nil _ _, Room.nil _ _, fun _ h => h.elim, fun _ h => h.elim, fun _ h => h.elim, fun h => h.elim, fun h => h.elim, fun h => h.elim, fun _ _ => ⟨fun h => h.elim, fun h => h.elim⟩, fun _ h => h.elim, fun _ h => h.elim⟩, fun _ => Iff.rfl⟩
 · have := hU _ h; omega
 · have := hU _ hk; rw [zaa]; omega
set_option maxRecDepth 100000 in
set_option maxHeartbeats 4000000 in
theorem z18 (S : St) (V : SV) (w : World) (R : RepSt w V S) (hS : Small S) :
 Calls Tryz.prog 22 #[.agg (stA V S.num), .slice none 0 0] w fun e w' => ∃ b own, e = .returned (.pointer (some ⟨b, 0, none⟩)) ∧ Gmt w' b own (Em.new S []) ∧ (∀ k, own k → w.heap.size ≤ k ∧ k < w'.heap.size) ∧ Grow w w' := by
 have HR := Lib.hid R
 have HS := Lib.hid hS
 rw [zep]
 have HCh := Lib.hid (fun W (g : Grow w W) => zos S V W (R.grow g) hS)
 generalize checkN S = n at *
 clear R hS
 go_enter Tryz.func22, Tryz.ntmps22
 go_wp2_with fail
 go_region_held3 (fun W => W.blk w.heap.size = stA V S.num) (simp [go_sem, *]) (first | (go_at_call 55; refine (zcb S V _ (HR.out.grow grI) HS.out).mono ?_; rintro e' w' ⟨V', rfl, hF, nx, rfl⟩; (try simp only [zad] at hF); (try simp only [zac] at hF); have HF := Lib.hid hF; clear hF) | (go_at_call 14; refine (HCh.out _ grI).mono ?_; rintro e' w' ⟨rfl, ny, rfl⟩))
 all_goals
  have hF := HF.out
  rw [show ((w.alloc (.cells (stA V S.num) 29)).drew.heap.size) = w.heap.size + 1 from zaa _ _] at hF
  have hrep : RepSt ((w.alloc (.cells (stA V S.num) 29)).plus (nx.late.and ny)) V' S := hF.rep.grow grI
  have hu : ∀ k, V'.uses k → w.heap.size + 3 ≤ k ∧ k < ((w.alloc (.cells (stA V S.num) 29)).plus (nx.late.and ny)).heap.size := fun k hk => by
   have h1 := hF.own k hk
   simp only [zab, zaa, Ext.and, Array.size_append] at h1 ⊢
   exact ⟨by omega, by omega⟩
  have hg := z7x (t := 102) n hrep (fun k hk => (hu k hk).2)
  have hsz : ((w.alloc (.cells (stA V S.num) 29)).plus (nx.late.and ny)).heap.size = w.heap.size + 1 + (nx.late.and ny).objs.size := by simp only [zab, zaa]
  rw [hsz] at hg
  have hown : ∀ k, zvp (w.heap.size + 1 + (nx.late.and ny).objs.size) V' .nil .nil .nil k → w.heap.size ≤ k := fun k hk => by
   rcases hk with h | h | h | h | h
   · omega
   · have := (hu k h).1; omega
   · exact h.elim
   · exact h.elim
   · exact h.elim
  have hc : (hoA V' S.num (gR .nil .nil .nil n))[40]? = some (I n) := by rw [show 40 = 37 + 3 from rfl, zb5]; rfl
  have HG := Lib.hid hg
  have HO := Lib.hid hown
  clear hF hrep hu hg hsz hown HF
  by_cases hn : n = 0
  · have hnb : (n == 0) = true := by simpa using hn
    clear hn
    go_wp2_with fail
    go_ret
    exact ⟨_, _, rfl, HG.out.grow grI, fun k hk => ⟨HO.out k hk, (HG.out.grow grI).lt k hk⟩, grI⟩
  · have hnb : (n == 0) = false := by simpa using hn
    clear hn
    go_wp2_with fail
    go_ret
    exact ⟨_, _, rfl, HG.out.grow grI, fun k hk => ⟨HO.out k hk, (HG.out.grow grI).lt k hk⟩, grI⟩
end Go.Proofs.YtgobdndjemicjaaGreatDoor
