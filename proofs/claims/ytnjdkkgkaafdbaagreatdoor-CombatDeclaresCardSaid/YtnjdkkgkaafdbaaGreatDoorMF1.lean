/-
  The document's emitter, as it stands in memory.
  The walks of the document's Do, Set, Game, Show.
-/
import Derived.Test.YtnjdkkgkaafdbaaGreatDoorMPutN
import Derived.Test.YtnjdkkgkaafdbaaGreatDoorMRef12
import Derived.Deep.RegionHeld3
namespace Go.Proofs.YtnjdkkgkaafdbaaGreatDoor
open Go Go.RowKit Go.Shelf

/-- What stands behind the state in the document's block. -/
def gR (sd se sp : Sl) (n : Int) : Array Value := #[sd.val, se.val, sp.val, I n]
@[go_sem] theorem gR_size (sd se sp : Sl) (n : Int) : (gR sd se sp n).size = 4 := rfl
@[go_sem] theorem gR_0 (sd se sp : Sl) (n : Int) : (gR sd se sp n)[0]? = some sd.val := rfl
@[go_sem] theorem gR_1 (sd se sp : Sl) (n : Int) : (gR sd se sp n)[1]? = some se.val := rfl
@[go_sem] theorem gR_2 (sd se sp : Sl) (n : Int) : (gR sd se sp n)[2]? = some sp.val := rfl
@[go_sem] theorem gR_3 (sd se sp : Sl) (n : Int) : (gR sd se sp n)[3]? = some (I n) := rfl
/-- The blocks that are the document's own. -/
def gOwn (b : Nat) (V : SV) (sd se sp : Sl) (k : Nat) : Prop := k = b ∨ V.uses k ∨ sd.owns k ∨ se.owns k ∨ sp.owns k
/-- The document's emitter stands so in memory. -/
structure RepD (w : World) (b : Nat) (V : SV) (sd se sp : Sl) (E : Em) : Prop where
  host : Host w b V E.now (gR sd se sp E.err)
  drs : Ints w sd E.draws
  evs : Rows' w se 6 E.evs
  evR : Room w se 6
  pend : Rows' w sp 3 E.pend
  pendR : Room w sp 3
  inD : ∀ k, sd.owns k → k < w.heap.size
  inE : ∀ k, se.owns k → k < w.heap.size
  inP : ∀ k, sp.owns k → k < w.heap.size
  apD : ¬ sd.owns b
  apE : ¬ se.owns b
  apP : ¬ sp.owns b
  apVE : ∀ k, V.uses k → ¬ se.owns k ∧ ¬ sp.owns k
  apDE : ∀ k, sd.owns k → ¬ se.owns k ∧ ¬ sp.owns k
  apEP : ∀ k, se.owns k → ¬ sp.owns k
theorem RepD.own_lt {w : World} {b : Nat} {V : SV} {sd se sp : Sl} {E : Em} (h : RepD w b V sd se sp E) : ∀ k, gOwn b V sd se sp k → k < w.heap.size := fun k hk => by
  rcases hk with rfl | h1 | h1 | h1 | h1
  · exact h.host.lt
  · exact h.host.in' k h1
  · exact h.inD k h1
  · exact h.inE k h1
  · exact h.inP k h1
theorem RepD.kept {own : Nat → Prop} {w w' : World} {b : Nat} {V : SV} {sd se sp : Sl} {E : Em} (h : RepD w b V sd se sp E) (g : Kept own w w') (hn : ∀ k, gOwn b V sd se sp k → ¬ own k) : RepD w' b V sd se sp E where
  host := host_kept h.host g (hn b (.inl rfl)) (fun k hk => hn k (.inr (.inl hk)))
  drs := h.drs.kept g (fun hl => hn _ (.inr (.inr (.inl (owns_of h.drs hl)))))
  evs := h.evs.kept g (fun hl => hn _ (.inr (.inr (.inr (.inl (rows_owns h.evs hl))))))
  evR := h.evR.kept g (fun k hk => hn k (.inr (.inr (.inr (.inl hk)))))
  pend := h.pend.kept g (fun hl => hn _ (.inr (.inr (.inr (.inr (rows_owns h.pend hl))))))
  pendR := h.pendR.kept g (fun k hk => hn k (.inr (.inr (.inr (.inr hk)))))
  inD := fun k hk => Nat.lt_of_lt_of_le (h.inD k hk) g.size
  inE := fun k hk => Nat.lt_of_lt_of_le (h.inE k hk) g.size
  inP := fun k hk => Nat.lt_of_lt_of_le (h.inP k hk) g.size
  apD := h.apD
  apE := h.apE
  apP := h.apP
  apVE := h.apVE
  apDE := h.apDE
  apEP := h.apEP
/-- The document's emitter stands in these blocks, whatever its slices. -/
def Gmt (w : World) (b : Nat) (own : Nat → Prop) (E : Em) : Prop := ∃ V sd se sp, RepD w b V sd se sp E ∧ ∀ k, own k ↔ gOwn b V sd se sp k
theorem Gmt.lt {w : World} {b : Nat} {own : Nat → Prop} {E : Em} (h : Gmt w b own E) : ∀ k, own k → k < w.heap.size := fun k hk => by
  obtain ⟨V, sd, se, sp, hr, ho⟩ := h
  exact hr.own_lt k ((ho k).1 hk)
theorem Gmt.kept {own o2 : Nat → Prop} {w w' : World} {b : Nat} {E : Em} (h : Gmt w b own E) (g : Kept o2 w w') (hn : ∀ k, own k → ¬ o2 k) : Gmt w' b own E := by
  obtain ⟨V, sd, se, sp, hr, ho⟩ := h
  exact ⟨V, sd, se, sp, hr.kept g (fun k hk => hn k ((ho k).2 hk)), ho⟩
theorem Gmt.grow {own : Nat → Prop} {w w' : World} {b : Nat} {E : Em} (h : Gmt w b own E) (g : Grow w w') : Gmt w' b own E := h.kept (g.kept (fun _ => False)) (fun _ _ h => h)
theorem RepD.errCell {w : World} {b : Nat} {V : SV} {sd se sp : Sl} {E : Em} (h : RepD w b V sd se sp E) : w.cell? ⟨b, 40, none⟩ = some (I E.err) := by
  rw [cell_of_blk h.host.free h.host.blk, show 40 = 37 + 3 from rfl, hoA_rest]
  rfl
/-- The blocks that the document's emitter may write. -/
def Wr (w : World) (b k : Nat) : Prop := k = b ∨ ∃ s : Sl, ((w.blk b)[38]? = some s.val ∨ (w.blk b)[39]? = some s.val) ∧ s.owns k
theorem val_inj {s s' : Sl} (h : s.val = s'.val) : s = s' := by
  cases s <;> cases s'
  · rfl
  · injection h with h1; cases h1
  · injection h with h1; cases h1
  · injection h with h1 h2 h3
    injection h1 with h1
    injection h1 with h4 h5
    subst h2; subst h3; subst h4; subst h5; rfl
theorem wr_iff {w : World} {b : Nat} {V : SV} {num : Nat → Int} {sd se sp : Sl} {n : Int} (h : w.blk b = hoA V num (gR sd se sp n)) (k : Nat) : Wr w b k ↔ k = b ∨ se.owns k ∨ sp.owns k := by
  have h38 : (w.blk b)[38]? = some se.val := by rw [h, show 38 = 37 + 1 from rfl, hoA_rest]; rfl
  have h39 : (w.blk b)[39]? = some sp.val := by rw [h, show 39 = 37 + 2 from rfl, hoA_rest]; rfl
  refine ⟨fun hk => ?_, fun hk => ?_⟩
  · rcases hk with h1 | ⟨s, h1 | h1, h2⟩
    · exact .inl h1
    · rw [h38] at h1; have := val_inj (Option.some.inj h1); subst this; exact .inr (.inl h2)
    · rw [h39] at h1; have := val_inj (Option.some.inj h1); subst this; exact .inr (.inr h2)
  · rcases hk with h1 | h1 | h1
    · exact .inl h1
    · exact .inr ⟨se, .inl h38, h1⟩
    · exact .inr ⟨sp, .inr h39, h1⟩
/-- What such a call keeps, told without its state's own slices. -/
def FPost (w : World) (b : Nat) (w' : World) : Prop := b < w.heap.size → Kept (Wr w b) w w' ∧ ∀ k, Wr w' b k → Wr w b k ∨ (w.heap.size ≤ k ∧ k < w'.heap.size)
theorem FPost.trans {w w1 w2 : World} {b : Nat} (h : FPost w b w1) (g : FPost w1 b w2) (hw : w.heap.size ≤ w1.heap.size) : FPost w b w2 := fun hb => by
  replace h := h hb
  replace g := g (by omega)
  refine ⟨h.1.trans g.1 (fun k hk h2 => ?_), fun k hk => ?_⟩
  · rcases h.2 k h2 with h1 | h1
    · exact h1
    · omega
  · rcases g.2 k hk with h1 | h1
    · rcases h.2 k h1 with h2 | h2
      · exact .inl h2
      · exact .inr ⟨h2.1, Nat.lt_of_lt_of_le h2.2 g.1.size⟩
    · exact .inr ⟨Nat.le_trans h.1.size h1.1, h1.2⟩
theorem FPost.grow {w w' : World} {b : Nat} (g : Grow w w') : FPost w b w' := fun hb => by
  obtain ⟨x, rfl⟩ := g
  refine ⟨Grow.kept _ ⟨x, rfl⟩, fun k hk => .inl ?_⟩
  unfold Wr at hk ⊢
  rwa [blk_plus, if_pos hb] at hk
/-- A state read ahead of such a call stands behind it. -/
theorem FPost.rep {w w' : World} {b : Nat} {V : SV} {S : St} (h : FPost w b w') (hb : b < w.heap.size) (R : RepSt w V S) (hn : ∀ k, V.uses k → ¬ Wr w b k) : RepSt w' V S := R.kept (h hb).1 hn
theorem RepD.wr {w : World} {b : Nat} {V : SV} {sd se sp : Sl} {E : Em} (h : RepD w b V sd se sp E) : ∀ k, V.uses k → ¬ Wr w b k := fun k hk hw => by
  rcases (wr_iff h.host.blk k).1 hw with h1 | h1 | h1
  · exact h.host.apart (h1 ▸ hk)
  · exact (h.apVE k hk).1 h1
  · exact (h.apVE k hk).2 h1
theorem RepD.step {w w' : World} {b : Nat} {V V' : SV} {num : Nat → Int} {sd sd' se se' sp sp' : Sl} {E : Em} {n : Int} (h : RepD w b V sd se sp E) (hb : w'.blk b = hoA V' num (gR sd' se' sp' n)) (g : Kept (fun k => k = b ∨ se.owns k ∨ sp.owns k) w w')
    (he : ∀ k, se'.owns k → se.owns k ∨ (w.heap.size ≤ k ∧ k < w'.heap.size)) (hp : ∀ k, sp'.owns k → sp.owns k ∨ (w.heap.size ≤ k ∧ k < w'.heap.size)) : FPost w b w' := fun _ => by
  refine ⟨g.mono (fun k _ hk => (wr_iff h.host.blk k).2 hk), fun k hk => ?_⟩
  rcases (wr_iff hb k).1 hk with h1 | h1 | h1
  · exact .inl (.inl h1)
  · rcases he k h1 with h2 | h2
    · exact .inl ((wr_iff h.host.blk k).2 (.inr (.inl h2)))
    · exact .inr h2
  · rcases hp k h1 with h2 | h2
    · exact .inl ((wr_iff h.host.blk k).2 (.inr (.inr h2)))
    · exact .inr h2
theorem Gmt.lt_b {w : World} {b : Nat} {own : Nat → Prop} {E : Em} (h : Gmt w b own E) : b < w.heap.size := by
  obtain ⟨V, sd, se, sp, hr, ho⟩ := h
  exact hr.host.lt
/-- What a call that turns the document's emitter alone leaves. -/
def DPost (w : World) (b : Nat) (own : Nat → Prop) (E : Em) (w' : World) : Prop := ∃ own', Gmt w' b own' E ∧ Kept own w w' ∧ (∀ k, own' k → own k ∨ (w.heap.size ≤ k ∧ k < w'.heap.size)) ∧ FPost w b w'
theorem DPost.of_grow {w w' : World} {b : Nat} {own : Nat → Prop} {E : Em} (h : Gmt w b own E) (g : Grow w w') : DPost w b own E w' := ⟨own, h.grow g, g.kept own, fun _ h => Or.inl h, .grow g⟩
theorem DPost.then {w w1 w2 : World} {b : Nat} {own own1 : Nat → Prop} {E2 : Em} (K1 : Kept own w w1) (O1 : ∀ k, own1 k → own k ∨ (w.heap.size ≤ k ∧ k < w1.heap.size)) (F1 : FPost w b w1) (h : DPost w1 b own1 E2 w2) : DPost w b own E2 w2 := by
  obtain ⟨own2, R2, K2, O2, F2⟩ := h
  refine ⟨own2, R2, K1.trans K2 (fun k hk h => ?_), fun k hk => ?_, F1.trans F2 K1.size⟩
  · rcases O1 k h with h1 | h1
    · exact h1
    · omega
  · rcases O2 k hk with h1 | h1
    · rcases O1 k h1 with h2 | h2
      · exact Or.inl h2
      · exact Or.inr ⟨h2.1, Nat.lt_of_lt_of_le h2.2 K2.size⟩
    · exact Or.inr ⟨Nat.le_trans K1.size h1.1, h1.2⟩
theorem DPost.trans {w w1 w2 : World} {b : Nat} {own : Nat → Prop} {E1 E2 : Em} (h : DPost w b own E1 w1) (g : ∀ own1, Gmt w1 b own1 E1 → DPost w1 b own1 E2 w2) : DPost w b own E2 w2 := by
  obtain ⟨own1, R1, K1, O1, F1⟩ := h
  exact DPost.then K1 O1 F1 (g own1 R1)
theorem DPost.low {w w1 w2 : World} {b : Nat} {own : Nat → Prop} {E : Em} (g : Grow w w1) (h : DPost w1 b own E w2) : DPost w b own E w2 := DPost.then (g.kept own) (fun _ h => Or.inl h) (.grow g) h
theorem DPost.more {w w1 w2 : World} {b : Nat} {own : Nat → Prop} {E : Em} (h : DPost w b own E w1) (g : Grow w1 w2) : DPost w b own E w2 := h.trans fun _ R => .of_grow R g
@[go_sem] theorem gR_0' (sd se sp : Sl) (n : Int) (h : 0 < (gR sd se sp n).size) : (gR sd se sp n)[0]'h = sd.val := rfl
@[go_sem] theorem gR_1' (sd se sp : Sl) (n : Int) (h : 1 < (gR sd se sp n).size) : (gR sd se sp n)[1]'h = se.val := rfl
@[go_sem] theorem gR_2' (sd se sp : Sl) (n : Int) (h : 2 < (gR sd se sp n).size) : (gR sd se sp n)[2]'h = sp.val := rfl
@[go_sem] theorem gR_3' (sd se sp : Sl) (n : Int) (h : 3 < (gR sd se sp n).size) : (gR sd se sp n)[3]'h = I n := rfl
theorem hoAg_37 (V : SV) (num : Nat → Int) (sd se sp : Sl) (n : Int) : (hoA V num (gR sd se sp n))[37]? = some sd.val := by rw [show 37 = 37 + 0 from rfl, hoA_rest]; rfl
theorem hoAg_38 (V : SV) (num : Nat → Int) (sd se sp : Sl) (n : Int) : (hoA V num (gR sd se sp n))[38]? = some se.val := by rw [show 38 = 37 + 1 from rfl, hoA_rest]; rfl
theorem hoAg_39 (V : SV) (num : Nat → Int) (sd se sp : Sl) (n : Int) : (hoA V num (gR sd se sp n))[39]? = some sp.val := by rw [show 39 = 37 + 2 from rfl, hoA_rest]; rfl
@[go_sem] theorem hoAg_s38 (V : SV) (num : Nat → Int) (sd se sp s : Sl) (n : Int) : (hoA V num (gR sd se sp n)).setIfInBounds 38 s.val = hoA V num (gR sd s sp n) := by rw [show 38 = 37 + 1 from rfl, hoA_setRest]; rfl
@[go_sem] theorem hoAg_s39 (V : SV) (num : Nat → Int) (sd se sp s : Sl) (n : Int) : (hoA V num (gR sd se sp n)).setIfInBounds 39 s.val = hoA V num (gR sd se s n) := by rw [show 39 = 37 + 2 from rfl, hoA_setRest]; rfl
theorem hoAg_s40 (V : SV) (num : Nat → Int) (sd se sp : Sl) (n m : Int) : (hoA V num (gR sd se sp n)).setIfInBounds 40 (I m) = hoA V num (gR sd se sp m) := by rw [show 40 = 37 + 3 from rfl, hoA_setRest]; rfl
/-- The document's emitter whose error is set. -/
theorem RepD.setErr {w : World} {b : Nat} {V : SV} {sd se sp : Sl} {E : Em} (h : RepD w b V sd se sp E) (m : Int) : RepD (w.setRow b (hoA V E.now.num (gR sd se sp m))) b V sd se sp { E with err := m } := by
  have k1 : Kept (fun k => k = b) w (w.setRow b (hoA V E.now.num (gR sd se sp m))) := (Kept.refl _ _).setRow b _ (fun _ => rfl)
  refine ⟨⟨by rw [blk_setRow _ _ _ _ h.host.free, if_pos rfl], by rw [free_setRow]; exact h.host.free, h.host.rep.kept k1 (fun k hk e => h.host.apart (by have e : k = b := e; rw [← e]; exact hk)), h.host.apart, fun k hk => by rw [size_setRow]; exact h.host.in' k hk⟩, ?_, ?_, ?_, ?_, ?_, ?_, ?_, ?_, h.apD, h.apE, h.apP, h.apVE, h.apDE, h.apEP⟩
  · exact h.drs.kept k1 (fun hl e => h.apD (by have e : sd.b = b := e; rw [← e]; exact owns_of h.drs hl))
  · exact h.evs.kept k1 (fun hl e => h.apE (by have e : se.b = b := e; rw [← e]; exact owns_ofR h.evs hl))
  · exact h.evR.kept k1 (fun k hk e => h.apE (by have e : k = b := e; rw [← e]; exact hk))
  · exact h.pend.kept k1 (fun hl e => h.apP (by have e : sp.b = b := e; rw [← e]; exact owns_ofR h.pend hl))
  · exact h.pendR.kept k1 (fun k hk e => h.apP (by have e : k = b := e; rw [← e]; exact hk))
  · exact fun k hk => by rw [size_setRow]; exact h.inD k hk
  · exact fun k hk => by rw [size_setRow]; exact h.inE k hk
  · exact fun k hk => by rw [size_setRow]; exact h.inP k hk
theorem Gmt.setErr {w w' : World} {b : Nat} {own : Nat → Prop} {V : SV} {sd se sp : Sl} {E : Em} (h : RepD w b V sd se sp E) (ho : ∀ k, own k ↔ gOwn b V sd se sp k) (m : Int) (g : Grow (w.setRow b (hoA V E.now.num (gR sd se sp m))) w') : DPost w b own { E with err := m } w' := by
  have k1 : Kept own w (w.setRow b (hoA V E.now.num (gR sd se sp m))) := (Kept.refl _ _).setRow b _ (fun _ => (ho b).2 (Or.inl rfl))
  exact ⟨own, ⟨V, sd, se, sp, (h.setErr m).kept (g.kept (fun _ => False)) (fun _ _ h => h), ho⟩, k1.trans (o2 := fun _ => False) (g.kept _) (fun _ _ h => h.elim), fun k hk => Or.inl hk, FPost.trans (h.step (V' := V) (num := E.now.num) (sd' := sd) (se' := se) (sp' := sp) (n := m) (by rw [blk_setRow _ _ _ _ h.host.free, if_pos rfl]) ((Kept.refl _ _).setRow b _ (fun _ => .inl rfl)) (fun _ h => .inl h) (fun _ h => .inl h)) (.grow g) (by rw [size_setRow]; omega)⟩
/-- Where a call has come to that turns an emitter. -/
structure TurnG (W : World) (b : Nat) (own : Nat → Prop) (E : Em) (wk : World) (ownk : Nat → Prop) : Prop where
  em : Gmt wk b ownk E
  kept : Kept own W wk
  own : ∀ j, ownk j → own j ∨ (W.heap.size ≤ j ∧ j < wk.heap.size)
  fine : FPost W b wk
theorem TurnG.first {W : World} {b : Nat} {own : Nat → Prop} {E : Em} (h : Gmt W b own E) : TurnG W b own E W own := ⟨h, Kept.refl _ _, fun _ h => Or.inl h, .grow (Grow.refl _)⟩
theorem TurnG.step {W wk wk' w2 : World} {b : Nat} {own ownk : Nat → Prop} {E E2 : Em} (h : TurnG W b own E wk ownk) (g : Grow wk wk') (e : DPost wk' b ownk E2 w2) : ∃ own2, TurnG W b own E2 w2 own2 := by
  obtain ⟨own2, r, k, o, f⟩ := DPost.then h.kept h.own h.fine (DPost.low g e)
  exact ⟨own2, r, k, o, f⟩
theorem TurnG.grow {W wk wk' : World} {b : Nat} {own ownk : Nat → Prop} {E : Em} (h : TurnG W b own E wk ownk) (g : Grow wk wk') : TurnG W b own E wk' ownk :=
  ⟨h.em.grow g, h.kept.trans (o2 := fun _ => False) (g.kept _) (fun _ _ h => h.elim), fun j hj => (h.own j hj).imp id (fun x => ⟨x.1, Nat.lt_of_lt_of_le x.2 g.size⟩), h.fine.trans (.grow g) h.kept.size⟩
theorem TurnG.post {W wk w : World} {b : Nat} {own ownk : Nat → Prop} {E : Em} (h : TurnG W b own E wk ownk) (g : Grow w W) : DPost w b own E wk := DPost.low g ⟨ownk, h.em, h.kept, h.own, h.fine⟩
theorem TurnG.mine {W wk : World} {b q : Nat} {own ownk : Nat → Prop} {E : Em} {cs : Array Value} (h : TurnG W b own E wk ownk) (m : Mine W own q cs) : Mine wk ownk q cs :=
  ⟨Nat.lt_of_lt_of_le m.lt h.kept.size, fun x => by
    rcases h.own q x with y | y
    · exact m.own y
    · have := m.lt; omega, by rw [h.kept.blk q m.lt m.own, m.blk], by rw [h.kept.free q m.lt m.own, m.free]⟩
theorem RepD.done {w w' : World} {b : Nat} {V V' : SV} {sd se sp : Sl} {E : Em} {S' : St} (h : RepD w b V sd se sp E) (hH : Host w' b V' S' (gR sd se sp E.err)) (g : Kept (fun k => k = b) w w') (hu : ∀ k, V'.uses k → V.uses k ∨ (w.heap.size ≤ k ∧ k < w'.heap.size)) :
    RepD w' b V' sd se sp { E with now := S' } := by
  refine ⟨hH, ?_, ?_, ?_, ?_, ?_, ?_, ?_, ?_, h.apD, h.apE, h.apP, fun k hk => ?_, h.apDE, h.apEP⟩
  · exact h.drs.kept g (fun hl e => h.apD (by have e : sd.b = b := e; rw [← e]; exact owns_of h.drs hl))
  · exact h.evs.kept g (fun hl e => h.apE (by have e : se.b = b := e; rw [← e]; exact owns_ofR h.evs hl))
  · exact h.evR.kept g (fun k hk e => h.apE (by have e : k = b := e; rw [← e]; exact hk))
  · exact h.pend.kept g (fun hl e => h.apP (by have e : sp.b = b := e; rw [← e]; exact owns_ofR h.pend hl))
  · exact h.pendR.kept g (fun k hk e => h.apP (by have e : k = b := e; rw [← e]; exact hk))
  · exact fun k hk => Nat.lt_of_lt_of_le (h.inD k hk) g.size
  · exact fun k hk => Nat.lt_of_lt_of_le (h.inE k hk) g.size
  · exact fun k hk => Nat.lt_of_lt_of_le (h.inP k hk) g.size
  · rcases hu k hk with h1 | h1
    · exact h.apVE k h1
    · exact ⟨fun h2 => by have := h.inE k h2; omega, fun h2 => by have := h.inP k h2; omega⟩
/-- The world behind the append to the events. -/
structure GStep (w : World) (b : Nat) (V : SV) (sd se sp : Sl) (E : Em) (e : List Int) (w' : World) (s' : Sl) : Prop where
  blk : w'.blk b = hoA V E.now.num (gR sd se sp E.err)
  free : w'.free b = true
  evs : Rows' w' s' 6 (E.evs ++ [e])
  evR : Room w' s' 6
  kept : Kept se.owns w w'
  own : ∀ k, s'.owns k → se.owns k ∨ (w.heap.size ≤ k ∧ k < w'.heap.size)
theorem g_step {w W1 w' : World} {b : Nat} {V : SV} {sd se sp s' : Sl} {E : Em} {e : List Int} (R : RepD w b V sd se sp E) (he : e.length = 6) (g : Grow w W1) (c1 : Cells w' s' 6 (flat E.evs ++ flat [e])) (c2 : Room w' s' 6) (c3 : Kept se.owns W1 w')
    (c4 : ∀ k, s'.owns k → se.owns k ∨ (W1.heap.size ≤ k ∧ k < w'.heap.size)) : GStep w b V sd se sp E e w' s' := by
  have hl := R.host.lt
  have hg := R.host.grow g
  have hl1 := hg.lt
  refine ⟨by rw [c3.blk b hl1 R.apE, hg.blk], by rw [c3.free b hl1 R.apE]; exact hg.free, ?_, c2, (g.kept _).trans c3 (fun _ _ h => h), fun k hk => ?_⟩
  · exact Cells.rows (by rw [flat_append]; exact c1) (by omega) (wid_append R.evs.wid (fun i hi => by
      have : i = 0 := by simp at hi; omega
      subst this; exact he))
  · rcases c4 k hk with h | h
    · exact Or.inl h
    · exact Or.inr ⟨Nat.le_trans g.size h.1, h.2⟩
theorem GStep.post {w w' : World} {b : Nat} {own : Nat → Prop} {V : SV} {sd se sp s' : Sl} {E : Em} {e : List Int} (h : GStep w b V sd se sp E e w' s') (R : RepD w b V sd se sp E) (ho : ∀ k, own k ↔ gOwn b V sd se sp k) :
    DPost w b own { E with evs := E.evs ++ [e] } (w'.setRow b (hoA V E.now.num (gR sd s' sp E.err))) := by
  have hl := R.host.lt
  have nb : ¬ s'.owns b := fun hb => by
    rcases h.own b hb with h1 | h1
    · exact R.apE h1
    · omega
  have k1 : Kept (fun k => k = b) w' (w'.setRow b (hoA V E.now.num (gR sd s' sp E.err))) := (Kept.refl _ _).setRow b _ (fun _ => rfl)
  have hlt : ∀ k, s'.owns k → k < w'.heap.size := fun k hk => by
    rcases h.own k hk with h1 | h1
    · have := R.inE k h1; have := h.kept.size; omega
    · exact h1.2
  have hV := R.host.rep.kept h.kept (fun k hk => (R.apVE k hk).1)
  have hsz := h.kept.size
  refine ⟨gOwn b V sd s' sp, ⟨V, sd, s', sp, ⟨⟨by rw [blk_setRow _ _ _ _ h.free, if_pos rfl], by rw [free_setRow]; exact h.free, hV.kept k1 (fun k hk e => R.host.apart (by have e : k = b := e; rw [← e]; exact hk)), R.host.apart, fun k hk => ?_⟩, ?_, ?_, ?_, ?_, ?_, ?_, ?_, ?_, R.apD, nb, R.apP, fun k hk => ⟨fun h2 => ?_, (R.apVE k hk).2⟩, fun k hk => ⟨fun h2 => ?_, (R.apDE k hk).2⟩, fun k hk h2 => ?_⟩, fun _ => Iff.rfl⟩, ?_, fun k hk => ?_, ?_⟩
  · rw [size_setRow]; have := R.host.in' k hk; omega
  · exact (R.drs.kept h.kept (fun hl => (R.apDE _ (owns_of R.drs hl)).1)).kept k1 (fun hl e => R.apD (by have e : sd.b = b := e; rw [← e]; exact owns_of R.drs hl))
  · exact h.evs.kept k1 (fun hl e => nb (by have e : s'.b = b := e; rw [← e]; exact owns_ofR h.evs hl))
  · exact h.evR.kept k1 (fun k hk e => nb (by have e : k = b := e; rw [← e]; exact hk))
  · exact (R.pend.kept h.kept (fun hl h2 => R.apEP _ h2 (owns_ofR R.pend hl))).kept k1 (fun hl e => R.apP (by have e : sp.b = b := e; rw [← e]; exact owns_ofR R.pend hl))
  · exact (R.pendR.kept h.kept (fun k hk h2 => R.apEP _ h2 hk)).kept k1 (fun k hk e => R.apP (by have e : k = b := e; rw [← e]; exact hk))
  · exact fun k hk => by rw [size_setRow]; have := R.inD k hk; omega
  · exact fun k hk => by rw [size_setRow]; exact hlt k hk
  · exact fun k hk => by rw [size_setRow]; have := R.inP k hk; omega
  · rcases h.own k h2 with h1 | h1
    · exact (R.apVE k hk).1 h1
    · have := R.host.in' k hk; omega
  · rcases h.own k h2 with h1 | h1
    · exact (R.apDE k hk).1 h1
    · have := R.inD k hk; omega
  · rcases h.own k hk with h1 | h1
    · exact R.apEP k h1 h2
    · have := R.inP k h2; omega
  · exact (h.kept.mono (o2 := own) (fun k _ h => (ho k).2 (Or.inr (Or.inr (Or.inr (Or.inl h)))))).trans k1 (fun k _ e => (ho k).2 (Or.inl e))
  · rcases hk with h1 | h1 | h1 | h1 | h1
    · exact Or.inl ((ho k).2 (Or.inl h1))
    · exact Or.inl ((ho k).2 (Or.inr (Or.inl h1)))
    · exact Or.inl ((ho k).2 (Or.inr (Or.inr (Or.inl h1))))
    · rcases h.own k h1 with h2 | h2
      · exact Or.inl ((ho k).2 (Or.inr (Or.inr (Or.inr (Or.inl h2)))))
      · exact Or.inr ⟨h2.1, by rw [size_setRow]; exact h2.2⟩
    · exact Or.inl ((ho k).2 (Or.inr (Or.inr (Or.inr (Or.inr h1)))))
  · refine R.step (V' := V) (num := E.now.num) (n := E.err) (by rw [blk_setRow _ _ _ _ h.free, if_pos rfl]) ((h.kept.mono (fun k _ hk => .inr (.inl hk))).setRow b _ (fun _ => .inl rfl)) (fun k hk => (h.own k hk).imp id (fun x => ⟨x.1, by rw [size_setRow]; exact x.2⟩)) (fun k hk => .inl hk)
theorem RepD.grow {w w' : World} {b : Nat} {V : SV} {sd se sp : Sl} {E : Em} (h : RepD w b V sd se sp E) (g : Grow w w') : RepD w' b V sd se sp E := h.kept (g.kept (fun _ => False)) (fun _ _ h => h)
/-- The world behind the append to what is pending. -/
structure GPend (w : World) (b : Nat) (V : SV) (sd se sp : Sl) (E : Em) (e : List Int) (w' : World) (s' : Sl) : Prop where
  blk : w'.blk b = hoA V E.now.num (gR sd se sp E.err)
  free : w'.free b = true
  pend : Rows' w' s' 3 (E.pend ++ [e])
  pendR : Room w' s' 3
  kept : Kept sp.owns w w'
  own : ∀ k, s'.owns k → sp.owns k ∨ (w.heap.size ≤ k ∧ k < w'.heap.size)
theorem g_pend {w W1 w' : World} {b : Nat} {V : SV} {sd se sp s' : Sl} {E : Em} {e : List Int} (R : RepD w b V sd se sp E) (he : e.length = 3) (g : Grow w W1) (c1 : Cells w' s' 3 (flat E.pend ++ flat [e])) (c2 : Room w' s' 3) (c3 : Kept sp.owns W1 w')
    (c4 : ∀ k, s'.owns k → sp.owns k ∨ (W1.heap.size ≤ k ∧ k < w'.heap.size)) : GPend w b V sd se sp E e w' s' := by
  have hl := R.host.lt
  have hg := R.host.grow g
  have hl1 := hg.lt
  refine ⟨by rw [c3.blk b hl1 R.apP, hg.blk], by rw [c3.free b hl1 R.apP]; exact hg.free, ?_, c2, (g.kept _).trans c3 (fun _ _ h => h), fun k hk => ?_⟩
  · exact Cells.rows (by rw [flat_append]; exact c1) (by omega) (wid_append R.pend.wid (fun i hi => by
      have : i = 0 := by simp at hi; omega
      subst this; exact he))
  · rcases c4 k hk with h | h
    · exact Or.inl h
    · exact Or.inr ⟨Nat.le_trans g.size h.1, h.2⟩
theorem GPend.post {w w' : World} {b : Nat} {own : Nat → Prop} {V : SV} {sd se sp s' : Sl} {E : Em} {e : List Int} (h : GPend w b V sd se sp E e w' s') (R : RepD w b V sd se sp E) (ho : ∀ k, own k ↔ gOwn b V sd se sp k) :
    DPost w b own { E with pend := E.pend ++ [e] } (w'.setRow b (hoA V E.now.num (gR sd se s' E.err))) := by
  have hl := R.host.lt
  have nb : ¬ s'.owns b := fun hb => by
    rcases h.own b hb with h1 | h1
    · exact R.apP h1
    · omega
  have k1 : Kept (fun k => k = b) w' (w'.setRow b (hoA V E.now.num (gR sd se s' E.err))) := (Kept.refl _ _).setRow b _ (fun _ => rfl)
  have hlt : ∀ k, s'.owns k → k < w'.heap.size := fun k hk => by
    rcases h.own k hk with h1 | h1
    · have := R.inP k h1; have := h.kept.size; omega
    · exact h1.2
  have hV := R.host.rep.kept h.kept (fun k hk => (R.apVE k hk).2)
  have hsz := h.kept.size
  refine ⟨gOwn b V sd se s', ⟨V, sd, se, s', ⟨⟨by rw [blk_setRow _ _ _ _ h.free, if_pos rfl], by rw [free_setRow]; exact h.free, hV.kept k1 (fun k hk e => R.host.apart (by have e : k = b := e; rw [← e]; exact hk)), R.host.apart, fun k hk => ?_⟩, ?_, ?_, ?_, ?_, ?_, ?_, ?_, ?_, R.apD, R.apE, nb, fun k hk => ⟨(R.apVE k hk).1, fun h2 => ?_⟩, fun k hk => ⟨(R.apDE k hk).1, fun h2 => ?_⟩, fun k hk h2 => ?_⟩, fun _ => Iff.rfl⟩, ?_, fun k hk => ?_, ?_⟩
  · rw [size_setRow]; have := R.host.in' k hk; omega
  · exact (R.drs.kept h.kept (fun hl => (R.apDE _ (owns_of R.drs hl)).2)).kept k1 (fun hl e => R.apD (by have e : sd.b = b := e; rw [← e]; exact owns_of R.drs hl))
  · exact (R.evs.kept h.kept (fun hl => R.apEP _ (owns_ofR R.evs hl))).kept k1 (fun hl e => R.apE (by have e : se.b = b := e; rw [← e]; exact owns_ofR R.evs hl))
  · exact (R.evR.kept h.kept (fun k hk => R.apEP _ hk)).kept k1 (fun k hk e => R.apE (by have e : k = b := e; rw [← e]; exact hk))
  · exact h.pend.kept k1 (fun hl e => nb (by have e : s'.b = b := e; rw [← e]; exact owns_ofR h.pend hl))
  · exact h.pendR.kept k1 (fun k hk e => nb (by have e : k = b := e; rw [← e]; exact hk))
  · exact fun k hk => by rw [size_setRow]; have := R.inD k hk; omega
  · exact fun k hk => by rw [size_setRow]; have := R.inE k hk; omega
  · exact fun k hk => by rw [size_setRow]; exact hlt k hk
  · rcases h.own k h2 with h1 | h1
    · exact (R.apVE k hk).2 h1
    · have := R.host.in' k hk; omega
  · rcases h.own k h2 with h1 | h1
    · exact (R.apDE k hk).2 h1
    · have := R.inD k hk; omega
  · rcases h.own k h2 with h1 | h1
    · exact R.apEP k hk h1
    · have := R.inE k hk; omega
  · exact (h.kept.mono (o2 := own) (fun k _ h => (ho k).2 (Or.inr (Or.inr (Or.inr (Or.inr h)))))).trans k1 (fun k _ e => (ho k).2 (Or.inl e))
  · rcases hk with h1 | h1 | h1 | h1 | h1
    · exact Or.inl ((ho k).2 (Or.inl h1))
    · exact Or.inl ((ho k).2 (Or.inr (Or.inl h1)))
    · exact Or.inl ((ho k).2 (Or.inr (Or.inr (Or.inl h1))))
    · exact Or.inl ((ho k).2 (Or.inr (Or.inr (Or.inr (Or.inl h1)))))
    · rcases h.own k h1 with h2 | h2
      · exact Or.inl ((ho k).2 (Or.inr (Or.inr (Or.inr (Or.inr h2)))))
      · exact Or.inr ⟨h2.1, by rw [size_setRow]; exact h2.2⟩
  · refine R.step (V' := V) (num := E.now.num) (n := E.err) (by rw [blk_setRow _ _ _ _ h.free, if_pos rfl]) ((h.kept.mono (fun k _ hk => .inr (.inr hk))).setRow b _ (fun _ => .inl rfl)) (fun k hk => .inl hk) (fun k hk => (h.own k hk).imp id (fun x => ⟨x.1, by rw [size_setRow]; exact x.2⟩))
end Go.Proofs.YtnjdkkgkaafdbaaGreatDoor
namespace Go.Proofs.YtnjdkkgkaafdbaaGreatDoor
open Go Go.RowKit Go.Shelf

theorem RepD.cells {w : World} {b : Nat} {V : SV} {sd se sp : Sl} {E : Em} (h : RepD w b V sd se sp E) : w.cell? ⟨b, 37, none⟩ = some sd.val ∧ w.cell? ⟨b, 38, none⟩ = some se.val ∧ w.cell? ⟨b, 39, none⟩ = some sp.val ∧ w.cell? ⟨b, 40, none⟩ = some (I E.err) := by
  have hc := cell_of_blk h.host.free h.host.blk
  refine ⟨(hc 37).trans (hoAg_37 _ _ _ _ _ _), (hc 38).trans (hoAg_38 _ _ _ _ _ _), (hc 39).trans (hoAg_39 _ _ _ _ _ _), (hc 40).trans ?_⟩
  rw [show 40 = 37 + 3 from rfl, hoA_rest]; rfl
theorem do1_err {E : Em} (h : E.err ≠ 0) (e : List Int) : E.do1 e = E := by unfold Em.do1; rw [if_pos h]
set_option maxRecDepth 100000 in
set_option maxHeartbeats 4000000 in
theorem gdo_any (w : World) (b : Nat) (own : Nat → Prop) (E : Em) (R : Gmt w b own E) (hS : Small E.now) (hev : E.err = 0 → E.evs.length < 65536) (e : List Int) (he : e.length = 6) (k0 : gt e 0 ≠ 0) (k5 : gt e 0 ≠ 5) :
    Calls Tryz.prog 91 #[.pointer (some ⟨b, 0, none⟩), .agg (cellsOf e)] w fun r w' => r = .returned (.tuple #[]) ∧ DPost w b own (E.do1 e) w' := by
  have HR0 := Lib.hid R
  obtain ⟨V, sd, se, sp, hr, ho⟩ := R
  have hH := hr.host
  obtain ⟨_, hc38, _, hc40⟩ := hr.cells
  have hcell := cell_of_blk (hH).free (hH).blk; have hfz := frozen_of_free (hH).free; have hset := setCell_of_blk (hH).free (hH).blk; have hblk := (hH).blk; have hfree := (hH).free; have hlt := (hH).lt; have hne1 : ¬ b = (w).heap.size := (by omega); have hne2 : ¬ (w).heap.size = b := (by omega)
  have HR := Lib.hid hr
  have HO := Lib.hid ho
  have hsn := hr.evs.len
  have HAp := Lib.hid (fun W (g : Grow w W) => apply_any E.now V e he W (hr.host.rep.grow g) hS k0 k5)
  by_cases hz : E.err = 0
  · have hev1 := hev hz
    rw [hz] at hc40
    cases hd : doEv E.now e with
    | error n =>
      have hn := doEv_err hd
      have hnb : (n == 0) = false := by simpa using hn
      have hnb2 : (n != 0) = true := by simpa using hn
      have h1 : E.do1 e = { E with err := n } := by unfold Em.do1; rw [if_neg (by rw [hz]; simp), hd]
      rw [hd] at HAp
      have hs := hset 40 (I n)
      rw [hoAg_s40] at hs
      rw [h1]
      clear hr ho hH hset hcell hd hn h1 hz k0 k5 hev hS
      go_enter Tryz.func91, Tryz.ntmps91
      go_wp2_with fail
      go_region_held3 (fun W => W.blk b = hoA V E.now.num (gR sd se sp E.err) ∧ W.blk w.heap.size = cellsOf e) (simp [go_sem, *]) (first | (go_at_call 118; refine (HAp.out _ grI).mono ?_; rintro r w' ⟨rfl, nx, rfl⟩))
      all_goals
        go_wp2_with fail
        refine bodyPost_ret (results_none rfl _ _ _) rfl ?_
        exact ⟨rfl, Gmt.setErr HR.out HO.out n grI⟩
    | ok S' =>
      have h1 : E.do1 e = { E with now := S', evs := E.evs ++ [e] } := by unfold Em.do1; rw [if_neg (by rw [hz]; simp), hd]; exact if_pos hev1
      rw [hd] at HAp
      rw [h1]
      have hev2 : (E.evs.length : Int) < 65536 := by omega
      have hev3 : ((65536 : Int) ≤ (E.evs.length : Int)) = False := by simp; omega
      have hev4 : (65536 ≤ E.evs.length) = False := by simp; omega
      clear hr ho hH hset hcell hd h1 hz k0 k5 hev hS
      go_enter Tryz.func91, Tryz.ntmps91
      go_wp2_with fail
      go_region_held3 (fun W => W.blk b = hoA V E.now.num (gR sd se sp E.err) ∧ W.blk w.heap.size = cellsOf e) (simp [go_sem, *]) (first | (go_at_call 118; refine (HAp.out _ grI).mono ?_; rintro r w' ⟨V', rfl, hR', hu, nx, rfl⟩; (try simp only [drew_plus] at hR'); (try simp only [plus_plus] at hR'); have HR2 := Lib.hid hR'; have HU := Lib.hid hu; clear hR' hu))
      · have hG1 : Grow w (((w.alloc (.cells (cellsOf e) 129)).plus nx.late).alloc (.cells (stA V' S'.num) 29)) := grI
        have hR1 : RepSt (((w.alloc (.cells (cellsOf e) 129)).plus nx.late).alloc (.cells (stA V' S'.num) 29)) V' S' := HR2.out.grow grI
        have hU1 : ∀ k, V'.uses k → w.heap.size ≤ k ∧ k < (((w.alloc (.cells (cellsOf e) 129)).plus nx.late).alloc (.cells (stA V' S'.num) 29)).heap.size := fun k hk => by have := HU.out k hk; simp only [drew_plus, plus_size, alloc_size', Ext.late] at this ⊢; rw [show ∀ (W : World), W.drew.heap.size = W.heap.size from fun _ => rfl] at this; simp only [alloc_size'] at this; exact ⟨by omega, by omega⟩
        have hq1 : (((w.alloc (.cells (cellsOf e) 129)).plus nx.late).alloc (.cells (stA V' S'.num) 29)).blk (w.heap.size + 1 + nx.late.objs.size) = stA V' S'.num := by go_simp
        have hq2 : (((w.alloc (.cells (cellsOf e) 129)).plus nx.late).alloc (.cells (stA V' S'.num) 29)).blk w.heap.size = cellsOf e := by go_simp
        have hq3 : (((w.alloc (.cells (cellsOf e) 129)).plus nx.late).alloc (.cells (stA V' S'.num) 29)).free w.heap.size = true := by go_simp
        have hq4 : w.heap.size < (((w.alloc (.cells (cellsOf e) 129)).plus nx.late).alloc (.cells (stA V' S'.num) 29)).heap.size := by simp only [plus_size, alloc_size']; omega
        have hq5 : (w.heap.size + 1 + nx.late.objs.size) < (((w.alloc (.cells (cellsOf e) 129)).plus nx.late).alloc (.cells (stA V' S'.num) 29)).heap.size := by simp only [plus_size, alloc_size']; omega
        have hq6 : ¬ (w.heap.size + 1 + nx.late.objs.size) = b := by omega
        have hq7 : ¬ (w.heap.size + 1 + nx.late.objs.size) = w.heap.size := by omega
        have hq8 : ¬ b = (w.heap.size + 1 + nx.late.objs.size) := by omega
        clear HR2 HU
        generalize (((w.alloc (.cells (cellsOf e) 129)).plus nx.late).alloc (.cells (stA V' S'.num) 29)) = W1 at *
        generalize (w.heap.size + 1 + nx.late.objs.size) = b4 at *
        have hG2 := HR.out.grow hG1
        have hst := run_store_host W1 b V V' E.now.num S'.num (gR sd se sp E.err) hG2.host.blk hG2.host.free
        have kk : Kept (fun k => k = b) w (W1.setRow b (hoA V' S'.num (gR sd se sp E.err))) := (hG1.kept _).setRow b _ (fun _ => rfl)
        have k1 : Kept (fun k => k = b) W1 (W1.setRow b (hoA V' S'.num (gR sd se sp E.err))) := (Kept.refl _ _).setRow b _ (fun _ => rfl)
        have hnb : ¬ V'.uses b := fun hu => by have := (hU1 b hu).1; omega
        have hd2 : RepD (W1.setRow b (hoA V' S'.num (gR sd se sp E.err))) b V' sd se sp { E with now := S' } := HR.out.done ⟨by rw [blk_setRow _ _ _ _ hG2.host.free, if_pos rfl], by rw [free_setRow]; exact hG2.host.free, hR1.kept k1 (fun k hk (ek : k = b) => hnb (ek ▸ hk)), hnb, fun k hk => by rw [size_setRow]; exact (hU1 k hk).2⟩ kk (fun k hk => .inr ⟨(hU1 k hk).1, by rw [size_setRow]; exact (hU1 k hk).2⟩)
        have hF2 : FPost w b (W1.setRow b (hoA V' S'.num (gR sd se sp E.err))) := HR.out.step (by rw [blk_setRow _ _ _ _ hG2.host.free, if_pos rfl]) (kk.mono fun k _ ek => .inl ek) (fun _ h => .inl h) (fun _ h => .inl h)
        have hK2 : Kept own w (W1.setRow b (hoA V' S'.num (gR sd se sp E.err))) := kk.mono (fun k _ ek => (HO.out k).2 (.inl ek))
        have hO2 : ∀ k, gOwn b V' sd se sp k → own k ∨ (w.heap.size ≤ k ∧ k < (W1.setRow b (hoA V' S'.num (gR sd se sp E.err))).heap.size) := fun k hk => by
          rcases hk with h | h | h | h | h
          · exact .inl ((HO.out k).2 (.inl h))
          · exact .inr ⟨(hU1 k h).1, by rw [size_setRow]; exact (hU1 k h).2⟩
          · exact .inl ((HO.out k).2 (.inr (.inr (.inl h))))
          · exact .inl ((HO.out k).2 (.inr (.inr (.inr (.inl h)))))
          · exact .inl ((HO.out k).2 (.inr (.inr (.inr (.inr h)))))
        obtain ⟨_, hd38, _, hd40⟩ := hG2.cells
        have hp2 : (W1.setRow b (hoA V' S'.num (gR sd se sp E.err))).blk w.heap.size = cellsOf e := by rw [blk_setRow _ _ _ _ hG2.host.free, if_neg hne2]; exact hq2
        have hp3 : (W1.setRow b (hoA V' S'.num (gR sd se sp E.err))).free w.heap.size = true := by rw [free_setRow]; exact hq3
        have hp4 : (W1.setRow b (hoA V' S'.num (gR sd se sp E.err))).heap.size = W1.heap.size := size_setRow _ _ _
        generalize W1.setRow b (hoA V' S'.num (gR sd se sp E.err)) = W2 at *
        have hH2 := hd2.host
        have hcell2 := cell_of_blk hH2.free hH2.blk
        have hfz2 := frozen_of_free hH2.free
        have hset2 := setCell_of_blk hH2.free hH2.blk
        have hfree2 := hH2.free
        have hlt2 := hH2.lt
        have hsen : se.n = E.evs.length := hd2.evs.len
        obtain ⟨_, he38, _, _⟩ := hd2.cells
        have hne3 : ¬ b = W2.heap.size := by omega
        have hne4 : ¬ W2.heap.size = b := by omega
        have hne5 : ¬ w.heap.size = W2.heap.size := by omega
        have hqs : w.heap.size < W2.heap.size := by omega
        have HRd := Lib.hid hd2
        have HK2 := Lib.hid hK2
        have HF2 := Lib.hid hF2
        have HO2 := Lib.hid hO2
        clear hp4 hd2 hF2 hK2 hO2 hH2 hR1 hU1 hnb kk k1 hG1 hG2 hfz hblk hfree HR HO HR0 HAp
        go_wp2_with fail
        go_region_law (first | ((refine step_append_cells (by rfl) _ _ 70 (by rfl) 129 Tryz.t129 (.agg (cellsOf (List.replicate 6 0))) 6 48 Tryz.underlying70 (by kernel_rfl) (by kernel_rfl) (by kernel_rfl) (by kernel_rfl) (by omega) rfl se (.mk _ 0 1 1) (flat E.evs) (flat [e]) (by rfl) (by rfl) (HRd.out.evs.cells.grow grI) (HRd.out.evR.grow grI) (one_row _ _ 6 e he (by go_simp)) (flat_oneCell _) (flat_oneCell _) (by rw [hsen]; show E.evs.length + 1 ≤ 4194304; omega) ?_; intro s' w' c1 c2 c3 c4 c5 c6; have hS := g_step HRd.out he grI c1 c2 c3 c4; have hq3 := hS.blk; have hqf3 := hS.free; have hqc := cell_of_blk hqf3 hq3; have hqz := frozen_of_free hqf3; have hqs3 := setCell_of_blk hqf3 hq3; have HS := Lib.hid hS; clear hS hq3 c1 c2 c3 c4 c5 c6)))
        all_goals
          go_wp2_with fail
          go_end0
          exact ⟨rfl, DPost.then HK2.out HO2.out HF2.out (HS.out.post HRd.out (fun _ => Iff.rfl))⟩
      · have hG1 : Grow w (((w.alloc (.cells (cellsOf e) 129)).alloc (.cells (stA V' S'.num) 29)).plus nx.late) := grI
        have hR1 : RepSt (((w.alloc (.cells (cellsOf e) 129)).alloc (.cells (stA V' S'.num) 29)).plus nx.late) V' S' := HR2.out.off12 (b := w.heap.size + 1) (by repeat (first | exact Off.base _ _ _ _ (by simp only [alloc_size']) | refine Off.plus ?_ _ | refine Off.alloc ?_ _)) (fun hu => by have := (HU.out _ hu).1; rw [show ∀ (W : World), W.drew.heap.size = W.heap.size from fun _ => rfl] at this; simp only [alloc_size'] at this; omega)
        have hU1 : ∀ k, V'.uses k → w.heap.size ≤ k ∧ k < (((w.alloc (.cells (cellsOf e) 129)).alloc (.cells (stA V' S'.num) 29)).plus nx.late).heap.size := fun k hk => by have := HU.out k hk; simp only [drew_plus, plus_size, alloc_size', Ext.late] at this ⊢; rw [show ∀ (W : World), W.drew.heap.size = W.heap.size from fun _ => rfl] at this; simp only [alloc_size'] at this; exact ⟨by omega, by omega⟩
        have hq1 : (((w.alloc (.cells (cellsOf e) 129)).alloc (.cells (stA V' S'.num) 29)).plus nx.late).blk (w.heap.size + 1) = stA V' S'.num := by go_simp
        have hq2 : (((w.alloc (.cells (cellsOf e) 129)).alloc (.cells (stA V' S'.num) 29)).plus nx.late).blk w.heap.size = cellsOf e := by go_simp
        have hq3 : (((w.alloc (.cells (cellsOf e) 129)).alloc (.cells (stA V' S'.num) 29)).plus nx.late).free w.heap.size = true := by go_simp
        have hq4 : w.heap.size < (((w.alloc (.cells (cellsOf e) 129)).alloc (.cells (stA V' S'.num) 29)).plus nx.late).heap.size := by simp only [plus_size, alloc_size']; omega
        have hq5 : (w.heap.size + 1) < (((w.alloc (.cells (cellsOf e) 129)).alloc (.cells (stA V' S'.num) 29)).plus nx.late).heap.size := by simp only [plus_size, alloc_size']; omega
        have hq6 : ¬ (w.heap.size + 1) = b := by omega
        have hq7 : ¬ (w.heap.size + 1) = w.heap.size := by omega
        have hq8 : ¬ b = (w.heap.size + 1) := by omega
        clear HR2 HU
        generalize (((w.alloc (.cells (cellsOf e) 129)).alloc (.cells (stA V' S'.num) 29)).plus nx.late) = W1 at *
        generalize (w.heap.size + 1) = b4 at *
        have hG2 := HR.out.grow hG1
        have hst := run_store_host W1 b V V' E.now.num S'.num (gR sd se sp E.err) hG2.host.blk hG2.host.free
        have kk : Kept (fun k => k = b) w (W1.setRow b (hoA V' S'.num (gR sd se sp E.err))) := (hG1.kept _).setRow b _ (fun _ => rfl)
        have k1 : Kept (fun k => k = b) W1 (W1.setRow b (hoA V' S'.num (gR sd se sp E.err))) := (Kept.refl _ _).setRow b _ (fun _ => rfl)
        have hnb : ¬ V'.uses b := fun hu => by have := (hU1 b hu).1; omega
        have hd2 : RepD (W1.setRow b (hoA V' S'.num (gR sd se sp E.err))) b V' sd se sp { E with now := S' } := HR.out.done ⟨by rw [blk_setRow _ _ _ _ hG2.host.free, if_pos rfl], by rw [free_setRow]; exact hG2.host.free, hR1.kept k1 (fun k hk (ek : k = b) => hnb (ek ▸ hk)), hnb, fun k hk => by rw [size_setRow]; exact (hU1 k hk).2⟩ kk (fun k hk => .inr ⟨(hU1 k hk).1, by rw [size_setRow]; exact (hU1 k hk).2⟩)
        have hF2 : FPost w b (W1.setRow b (hoA V' S'.num (gR sd se sp E.err))) := HR.out.step (by rw [blk_setRow _ _ _ _ hG2.host.free, if_pos rfl]) (kk.mono fun k _ ek => .inl ek) (fun _ h => .inl h) (fun _ h => .inl h)
        have hK2 : Kept own w (W1.setRow b (hoA V' S'.num (gR sd se sp E.err))) := kk.mono (fun k _ ek => (HO.out k).2 (.inl ek))
        have hO2 : ∀ k, gOwn b V' sd se sp k → own k ∨ (w.heap.size ≤ k ∧ k < (W1.setRow b (hoA V' S'.num (gR sd se sp E.err))).heap.size) := fun k hk => by
          rcases hk with h | h | h | h | h
          · exact .inl ((HO.out k).2 (.inl h))
          · exact .inr ⟨(hU1 k h).1, by rw [size_setRow]; exact (hU1 k h).2⟩
          · exact .inl ((HO.out k).2 (.inr (.inr (.inl h))))
          · exact .inl ((HO.out k).2 (.inr (.inr (.inr (.inl h)))))
          · exact .inl ((HO.out k).2 (.inr (.inr (.inr (.inr h)))))
        obtain ⟨_, hd38, _, hd40⟩ := hG2.cells
        have hp2 : (W1.setRow b (hoA V' S'.num (gR sd se sp E.err))).blk w.heap.size = cellsOf e := by rw [blk_setRow _ _ _ _ hG2.host.free, if_neg hne2]; exact hq2
        have hp3 : (W1.setRow b (hoA V' S'.num (gR sd se sp E.err))).free w.heap.size = true := by rw [free_setRow]; exact hq3
        have hp4 : (W1.setRow b (hoA V' S'.num (gR sd se sp E.err))).heap.size = W1.heap.size := size_setRow _ _ _
        generalize W1.setRow b (hoA V' S'.num (gR sd se sp E.err)) = W2 at *
        have hH2 := hd2.host
        have hcell2 := cell_of_blk hH2.free hH2.blk
        have hfz2 := frozen_of_free hH2.free
        have hset2 := setCell_of_blk hH2.free hH2.blk
        have hfree2 := hH2.free
        have hlt2 := hH2.lt
        have hsen : se.n = E.evs.length := hd2.evs.len
        obtain ⟨_, he38, _, _⟩ := hd2.cells
        have hne3 : ¬ b = W2.heap.size := by omega
        have hne4 : ¬ W2.heap.size = b := by omega
        have hne5 : ¬ w.heap.size = W2.heap.size := by omega
        have hqs : w.heap.size < W2.heap.size := by omega
        have HRd := Lib.hid hd2
        have HK2 := Lib.hid hK2
        have HF2 := Lib.hid hF2
        have HO2 := Lib.hid hO2
        clear hp4 hd2 hF2 hK2 hO2 hH2 hR1 hU1 hnb kk k1 hG1 hG2 hfz hblk hfree HR HO HR0 HAp
        go_wp2_with fail
        go_region_law (first | ((refine step_append_cells (by rfl) _ _ 70 (by rfl) 129 Tryz.t129 (.agg (cellsOf (List.replicate 6 0))) 6 48 Tryz.underlying70 (by kernel_rfl) (by kernel_rfl) (by kernel_rfl) (by kernel_rfl) (by omega) rfl se (.mk _ 0 1 1) (flat E.evs) (flat [e]) (by rfl) (by rfl) (HRd.out.evs.cells.grow grI) (HRd.out.evR.grow grI) (one_row _ _ 6 e he (by go_simp)) (flat_oneCell _) (flat_oneCell _) (by rw [hsen]; show E.evs.length + 1 ≤ 4194304; omega) ?_; intro s' w' c1 c2 c3 c4 c5 c6; have hS := g_step HRd.out he grI c1 c2 c3 c4; have hq3 := hS.blk; have hqf3 := hS.free; have hqc := cell_of_blk hqf3 hq3; have hqz := frozen_of_free hqf3; have hqs3 := setCell_of_blk hqf3 hq3; have HS := Lib.hid hS; clear hS hq3 c1 c2 c3 c4 c5 c6)))
        all_goals
          go_wp2_with fail
          go_end0
          exact ⟨rfl, DPost.then HK2.out HO2.out HF2.out (HS.out.post HRd.out (fun _ => Iff.rfl))⟩
  · have hzb : (E.err != 0) = true := by simpa using hz
    rw [do1_err hz]
    clear hr ho hH hset hcell hz k0 k5 hev hS
    go_enter Tryz.func91, Tryz.ntmps91
    go_wp2_with fail
    refine bodyPost_ret (results_none rfl _ _ _) rfl ?_
    exact ⟨rfl, .of_grow HR0.out grI⟩
end Go.Proofs.YtnjdkkgkaafdbaaGreatDoor
