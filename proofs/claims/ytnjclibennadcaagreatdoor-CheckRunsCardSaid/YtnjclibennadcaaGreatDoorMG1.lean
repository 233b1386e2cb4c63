/-
  The document's emitter, as it stands in memory.
  The walks of the document's Do, Set, Game, Show.
  The walks of the document's Set and Game.
  The walks of the document's Knows, bit, Zone, Change and Show.
  The walks of the document's Change and Show.
  The walks of the document's Show, home and Fail.
-/
import Derived.Test.YtnjclibennadcaaGreatDoorMPutN
import Derived.Test.YtnjclibennadcaaGreatDoorMRef12
import Derived.Deep.RegionHeld3
namespace Go.Proofs.YtnjclibennadcaaGreatDoor
open Go Go.RowKit Go.Shelf

/-- What stands behind the state in the document's block. -/
def gR (sd se sp : Sl) (n : Int) : Array Value := #[sd.val, se.val, sp.val, I n]
@[go_sem] theorem gR_size (sd se sp : Sl) (n : Int) : (gR sd se sp n).size = 4 := rfl
@[go_sem] theorem gR_0 (sd se sp : Sl) (n : Int) : (gR sd se sp n)[0]? = some sd.val := rfl
@[go_sem] theorem gR_1 (sd se sp : Sl) (n : Int) : (gR sd se sp n)[1]? = some se.val := rfl
@[go_sem] theorem gR_2 (sd se sp : Sl) (n : Int) : (gR sd se sp n)[2]? = some sp.val := rfl
@[go_sem] theorem gR_3 (sd se sp : Sl) (n : Int) : (gR sd se sp n)[3]? = some (I n) := rfl
/-- The blocks that are the document's own. -/
def gOwn (b : Nat) (V : SV) (sd se sp : Sl) (k : Nat) : Prop := k = b ∨ V.uses k ∨ sd.owns k ∨ se.owns k ∨ sp.owns k
/-- The document's emitter stands so in memory. -/
structure RepD (w : World) (b : Nat) (V : SV) (sd se sp : Sl) (E : Em) : Prop where
  host : Host w b V E.now (gR sd se sp E.err)
  drs : Ints w sd E.draws
  evs : Rows' w se 6 E.evs
  evR : Room w se 6
  pend : Rows' w sp 3 E.pend
  pendR : Room w sp 3
  inD : ∀ k, sd.owns k → k < w.heap.size
  inE : ∀ k, se.owns k → k < w.heap.size
  inP : ∀ k, sp.owns k → k < w.heap.size
  apD : ¬ sd.owns b
  apE : ¬ se.owns b
  apP : ¬ sp.owns b
  apVE : ∀ k, V.uses k → ¬ se.owns k ∧ ¬ sp.owns k
  apDE : ∀ k, sd.owns k → ¬ se.owns k ∧ ¬ sp.owns k
  apEP : ∀ k, se.owns k → ¬ sp.owns k
theorem RepD.own_lt {w : World} {b : Nat} {V : SV} {sd se sp : Sl} {E : Em} (h : RepD w b V sd se sp E) : ∀ k, gOwn b V sd se sp k → k < w.heap.size := fun k hk => by
  rcases hk with rfl | h1 | h1 | h1 | h1
  · exact h.host.lt
  · exact h.host.in' k h1
  · exact h.inD k h1
  · exact h.inE k h1
  · exact h.inP k h1
theorem RepD.kept {own : Nat → Prop} {w w' : World} {b : Nat} {V : SV} {sd se sp : Sl} {E : Em} (h : RepD w b V sd se sp E) (g : Kept own w w') (hn : ∀ k, gOwn b V sd se sp k → ¬ own k) : RepD w' b V sd se sp E where
  host := host_kept h.host g (hn b (.inl rfl)) (fun k hk => hn k (.inr (.inl hk)))
  drs := h.drs.kept g (fun hl => hn _ (.inr (.inr (.inl (owns_of h.drs hl)))))
  evs := h.evs.kept g (fun hl => hn _ (.inr (.inr (.inr (.inl (rows_owns h.evs hl))))))
  evR := h.evR.kept g (fun k hk => hn k (.inr (.inr (.inr (.inl hk)))))
  pend := h.pend.kept g (fun hl => hn _ (.inr (.inr (.inr (.inr (rows_owns h.pend hl))))))
  pendR := h.pendR.kept g (fun k hk => hn k (.inr (.inr (.inr (.inr hk)))))
  inD := fun k hk => Nat.lt_of_lt_of_le (h.inD k hk) g.size
  inE := fun k hk => Nat.lt_of_lt_of_le (h.inE k hk) g.size
  inP := fun k hk => Nat.lt_of_lt_of_le (h.inP k hk) g.size
  apD := h.apD
  apE := h.apE
  apP := h.apP
  apVE := h.apVE
  apDE := h.apDE
  apEP := h.apEP
/-- The document's emitter stands in these blocks, whatever its slices. -/
def Gmt (w : World) (b : Nat) (own : Nat → Prop) (E : Em) : Prop := ∃ V sd se sp, RepD w b V sd se sp E ∧ ∀ k, own k ↔ gOwn b V sd se sp k
theorem Gmt.lt {w : World} {b : Nat} {own : Nat → Prop} {E : Em} (h : Gmt w b own E) : ∀ k, own k → k < w.heap.size := fun k hk => by
  obtain ⟨V, sd, se, sp, hr, ho⟩ := h
  exact hr.own_lt k ((ho k).1 hk)
theorem Gmt.kept {own o2 : Nat → Prop} {w w' : World} {b : Nat} {E : Em} (h : Gmt w b own E) (g : Kept o2 w w') (hn : ∀ k, own k → ¬ o2 k) : Gmt w' b own E := by
  obtain ⟨V, sd, se, sp, hr, ho⟩ := h
  exact ⟨V, sd, se, sp, hr.kept g (fun k hk => hn k ((ho k).2 hk)), ho⟩
theorem Gmt.grow {own : Nat → Prop} {w w' : World} {b : Nat} {E : Em} (h : Gmt w b own E) (g : Grow w w') : Gmt w' b own E := h.kept (g.kept (fun _ => False)) (fun _ _ h => h)
theorem RepD.errCell {w : World} {b : Nat} {V : SV} {sd se sp : Sl} {E : Em} (h : RepD w b V sd se sp E) : w.cell? ⟨b, 40, none⟩ = some (I E.err) := by
  rw [cell_of_blk h.host.free h.host.blk, show 40 = 37 + 3 from rfl, hoA_rest]
  rfl
/-- What a call that turns an emitter alone leaves. -/
def DPost (w : World) (b : Nat) (own : Nat → Prop) (E : Em) (w' : World) : Prop := ∃ own', Gmt w' b own' E ∧ Kept own w w' ∧ ∀ k, own' k → own k ∨ (w.heap.size ≤ k ∧ k < w'.heap.size)
theorem DPost.of_grow {w w' : World} {b : Nat} {own : Nat → Prop} {E : Em} (h : Gmt w b own E) (g : Grow w w') : DPost w b own E w' := ⟨own, h.grow g, g.kept own, fun _ h => Or.inl h⟩
theorem DPost.then {w w1 w2 : World} {b : Nat} {own own1 : Nat → Prop} {E2 : Em} (K1 : Kept own w w1) (O1 : ∀ k, own1 k → own k ∨ (w.heap.size ≤ k ∧ k < w1.heap.size)) (h : DPost w1 b own1 E2 w2) : DPost w b own E2 w2 := by
  obtain ⟨own2, R2, K2, O2⟩ := h
  refine ⟨own2, R2, K1.trans K2 (fun k hk h => ?_), fun k hk => ?_⟩
  · rcases O1 k h with h1 | h1
    · exact h1
    · omega
  · rcases O2 k hk with h1 | h1
    · rcases O1 k h1 with h2 | h2
      · exact Or.inl h2
      · exact Or.inr ⟨h2.1, Nat.lt_of_lt_of_le h2.2 K2.size⟩
    · exact Or.inr ⟨Nat.le_trans K1.size h1.1, h1.2⟩
theorem DPost.trans {w w1 w2 : World} {b : Nat} {own : Nat → Prop} {E1 E2 : Em} (h : DPost w b own E1 w1) (g : ∀ own1, Gmt w1 b own1 E1 → DPost w1 b own1 E2 w2) : DPost w b own E2 w2 := by
  obtain ⟨own1, R1, K1, O1⟩ := h
  exact DPost.then K1 O1 (g own1 R1)
theorem DPost.low {w w1 w2 : World} {b : Nat} {own : Nat → Prop} {E : Em} (g : Grow w w1) (h : DPost w1 b own E w2) : DPost w b own E w2 := DPost.then (g.kept own) (fun _ h => Or.inl h) h
theorem DPost.more {w w1 w2 : World} {b : Nat} {own : Nat → Prop} {E : Em} (h : DPost w b own E w1) (g : Grow w1 w2) : DPost w b own E w2 := h.trans fun _ R => .of_grow R g
@[go_sem] theorem gR_0' (sd se sp : Sl) (n : Int) (h : 0 < (gR sd se sp n).size) : (gR sd se sp n)[0]'h = sd.val := rfl
@[go_sem] theorem gR_1' (sd se sp : Sl) (n : Int) (h : 1 < (gR sd se sp n).size) : (gR sd se sp n)[1]'h = se.val := rfl
@[go_sem] theorem gR_2' (sd se sp : Sl) (n : Int) (h : 2 < (gR sd se sp n).size) : (gR sd se sp n)[2]'h = sp.val := rfl
@[go_sem] theorem gR_3' (sd se sp : Sl) (n : Int) (h : 3 < (gR sd se sp n).size) : (gR sd se sp n)[3]'h = I n := rfl
theorem hoAg_37 (V : SV) (num : Nat → Int) (sd se sp : Sl) (n : Int) : (hoA V num (gR sd se sp n))[37]? = some sd.val := by rw [show 37 = 37 + 0 from rfl, hoA_rest]; rfl
theorem hoAg_38 (V : SV) (num : Nat → Int) (sd se sp : Sl) (n : Int) : (hoA V num (gR sd se sp n))[38]? = some se.val := by rw [show 38 = 37 + 1 from rfl, hoA_rest]; rfl
theorem hoAg_39 (V : SV) (num : Nat → Int) (sd se sp : Sl) (n : Int) : (hoA V num (gR sd se sp n))[39]? = some sp.val := by rw [show 39 = 37 + 2 from rfl, hoA_rest]; rfl
@[go_sem] theorem hoAg_s38 (V : SV) (num : Nat → Int) (sd se sp s : Sl) (n : Int) : (hoA V num (gR sd se sp n)).setIfInBounds 38 s.val = hoA V num (gR sd s sp n) := by rw [show 38 = 37 + 1 from rfl, hoA_setRest]; rfl
@[go_sem] theorem hoAg_s39 (V : SV) (num : Nat → Int) (sd se sp s : Sl) (n : Int) : (hoA V num (gR sd se sp n)).setIfInBounds 39 s.val = hoA V num (gR sd se s n) := by rw [show 39 = 37 + 2 from rfl, hoA_setRest]; rfl
theorem hoAg_s40 (V : SV) (num : Nat → Int) (sd se sp : Sl) (n m : Int) : (hoA V num (gR sd se sp n)).setIfInBounds 40 (I m) = hoA V num (gR sd se sp m) := by rw [show 40 = 37 + 3 from rfl, hoA_setRest]; rfl
/-- The document's emitter whose error is set. -/
theorem RepD.setErr {w : World} {b : Nat} {V : SV} {sd se sp : Sl} {E : Em} (h : RepD w b V sd se sp E) (m : Int) : RepD (w.setRow b (hoA V E.now.num (gR sd se sp m))) b V sd se sp { E with err := m } := by
  have k1 : Kept (fun k => k = b) w (w.setRow b (hoA V E.now.num (gR sd se sp m))) := (Kept.refl _ _).setRow b _ (fun _ => rfl)
  refine ⟨⟨by rw [blk_setRow _ _ _ _ h.host.free, if_pos rfl], by rw [free_setRow]; exact h.host.free, h.host.rep.kept k1 (fun k hk e => h.host.apart (by have e : k = b := e; rw [← e]; exact hk)), h.host.apart, fun k hk => by rw [size_setRow]; exact h.host.in' k hk⟩, ?_, ?_, ?_, ?_, ?_, ?_, ?_, ?_, h.apD, h.apE, h.apP, h.apVE, h.apDE, h.apEP⟩
  · exact h.drs.kept k1 (fun hl e => h.apD (by have e : sd.b = b := e; rw [← e]; exact owns_of h.drs hl))
  · exact h.evs.kept k1 (fun hl e => h.apE (by have e : se.b = b := e; rw [← e]; exact owns_ofR h.evs hl))
  · exact h.evR.kept k1 (fun k hk e => h.apE (by have e : k = b := e; rw [← e]; exact hk))
  · exact h.pend.kept k1 (fun hl e => h.apP (by have e : sp.b = b := e; rw [← e]; exact owns_ofR h.pend hl))
  · exact h.pendR.kept k1 (fun k hk e => h.apP (by have e : k = b := e; rw [← e]; exact hk))
  · exact fun k hk => by rw [size_setRow]; exact h.inD k hk
  · exact fun k hk => by rw [size_setRow]; exact h.inE k hk
  · exact fun k hk => by rw [size_setRow]; exact h.inP k hk
theorem Gmt.setErr {w w' : World} {b : Nat} {own : Nat → Prop} {V : SV} {sd se sp : Sl} {E : Em} (h : RepD w b V sd se sp E) (ho : ∀ k, own k ↔ gOwn b V sd se sp k) (m : Int) (g : Grow (w.setRow b (hoA V E.now.num (gR sd se sp m))) w') : DPost w b own { E with err := m } w' := by
  have k1 : Kept own w (w.setRow b (hoA V E.now.num (gR sd se sp m))) := (Kept.refl _ _).setRow b _ (fun _ => (ho b).2 (Or.inl rfl))
  exact ⟨own, ⟨V, sd, se, sp, (h.setErr m).kept (g.kept (fun _ => False)) (fun _ _ h => h), ho⟩, k1.trans (o2 := fun _ => False) (g.kept _) (fun _ _ h => h.elim), fun k hk => Or.inl hk⟩
/-- Where a call has come to that turns an emitter. -/
structure TurnG (W : World) (b : Nat) (own : Nat → Prop) (E : Em) (wk : World) (ownk : Nat → Prop) : Prop where
  em : Gmt wk b ownk E
  kept : Kept own W wk
  own : ∀ j, ownk j → own j ∨ (W.heap.size ≤ j ∧ j < wk.heap.size)
theorem TurnG.first {W : World} {b : Nat} {own : Nat → Prop} {E : Em} (h : Gmt W b own E) : TurnG W b own E W own := ⟨h, Kept.refl _ _, fun _ h => Or.inl h⟩
theorem TurnG.step {W wk wk' w2 : World} {b : Nat} {own ownk : Nat → Prop} {E E2 : Em} (h : TurnG W b own E wk ownk) (g : Grow wk wk') (e : DPost wk' b ownk E2 w2) : ∃ own2, TurnG W b own E2 w2 own2 := by
  obtain ⟨own2, r, k, o⟩ := DPost.then h.kept h.own (DPost.low g e)
  exact ⟨own2, r, k, o⟩
theorem TurnG.grow {W wk wk' : World} {b : Nat} {own ownk : Nat → Prop} {E : Em} (h : TurnG W b own E wk ownk) (g : Grow wk wk') : TurnG W b own E wk' ownk :=
  ⟨h.em.grow g, h.kept.trans (o2 := fun _ => False) (g.kept _) (fun _ _ h => h.elim), fun j hj => (h.own j hj).imp id (fun x => ⟨x.1, Nat.lt_of_lt_of_le x.2 g.size⟩)⟩
theorem TurnG.post {W wk w : World} {b : Nat} {own ownk : Nat → Prop} {E : Em} (h : TurnG W b own E wk ownk) (g : Grow w W) : DPost w b own E wk := DPost.low g ⟨ownk, h.em, h.kept, h.own⟩
theorem TurnG.mine {W wk : World} {b q : Nat} {own ownk : Nat → Prop} {E : Em} {cs : Array Value} (h : TurnG W b own E wk ownk) (m : Mine W own q cs) : Mine wk ownk q cs :=
  ⟨Nat.lt_of_lt_of_le m.lt h.kept.size, fun x => by
    rcases h.own q x with y | y
    · exact m.own y
    · have := m.lt; omega, by rw [h.kept.blk q m.lt m.own, m.blk], by rw [h.kept.free q m.lt m.own, m.free]⟩
theorem RepD.done {w w' : World} {b : Nat} {V V' : SV} {sd se sp : Sl} {E : Em} {S' : St} (h : RepD w b V sd se sp E) (hH : Host w' b V' S' (gR sd se sp E.err)) (g : Kept (fun k => k = b) w w') (hu : ∀ k, V'.uses k → V.uses k ∨ (w.heap.size ≤ k ∧ k < w'.heap.size)) :
    RepD w' b V' sd se sp { E with now := S' } := by
  refine ⟨hH, ?_, ?_, ?_, ?_, ?_, ?_, ?_, ?_, h.apD, h.apE, h.apP, fun k hk => ?_, h.apDE, h.apEP⟩
  · exact h.drs.kept g (fun hl e => h.apD (by have e : sd.b = b := e; rw [← e]; exact owns_of h.drs hl))
  · exact h.evs.kept g (fun hl e => h.apE (by have e : se.b = b := e; rw [← e]; exact owns_ofR h.evs hl))
  · exact h.evR.kept g (fun k hk e => h.apE (by have e : k = b := e; rw [← e]; exact hk))
  · exact h.pend.kept g (fun hl e => h.apP (by have e : sp.b = b := e; rw [← e]; exact owns_ofR h.pend hl))
  · exact h.pendR.kept g (fun k hk e => h.apP (by have e : k = b := e; rw [← e]; exact hk))
  · exact fun k hk => Nat.lt_of_lt_of_le (h.inD k hk) g.size
  · exact fun k hk => Nat.lt_of_lt_of_le (h.inE k hk) g.size
  · exact fun k hk => Nat.lt_of_lt_of_le (h.inP k hk) g.size
  · rcases hu k hk with h1 | h1
    · exact h.apVE k h1
    · exact ⟨fun h2 => by have := h.inE k h2; omega, fun h2 => by have := h.inP k h2; omega⟩
/-- The world behind the append to the events. -/
structure GStep (w : World) (b : Nat) (V : SV) (sd se sp : Sl) (E : Em) (e : List Int) (w' : World) (s' : Sl) : Prop where
  blk : w'.blk b = hoA V E.now.num (gR sd se sp E.err)
  free : w'.free b = true
  evs : Rows' w' s' 6 (E.evs ++ [e])
  evR : Room w' s' 6
  kept : Kept se.owns w w'
  own : ∀ k, s'.owns k → se.owns k ∨ (w.heap.size ≤ k ∧ k < w'.heap.size)
theorem g_step {w W1 w' : World} {b : Nat} {V : SV} {sd se sp s' : Sl} {E : Em} {e : List Int} (R : RepD w b V sd se sp E) (he : e.length = 6) (g : Grow w W1) (c1 : Cells w' s' 6 (flat E.evs ++ flat [e])) (c2 : Room w' s' 6) (c3 : Kept se.owns W1 w')
    (c4 : ∀ k, s'.owns k → se.owns k ∨ (W1.heap.size ≤ k ∧ k < w'.heap.size)) : GStep w b V sd se sp E e w' s' := by
  have hl := R.host.lt
  have hg := R.host.grow g
  have hl1 := hg.lt
  refine ⟨by rw [c3.blk b hl1 R.apE, hg.blk], by rw [c3.free b hl1 R.apE]; exact hg.free, ?_, c2, (g.kept _).trans c3 (fun _ _ h => h), fun k hk => ?_⟩
  · exact Cells.rows (by rw [flat_append]; exact c1) (by omega) (wid_append R.evs.wid (fun i hi => by
      have : i = 0 := by simp at hi; omega
      subst this; exact he))
  · rcases c4 k hk with h | h
    · exact Or.inl h
    · exact Or.inr ⟨Nat.le_trans g.size h.1, h.2⟩
theorem GStep.post {w w' : World} {b : Nat} {own : Nat → Prop} {V : SV} {sd se sp s' : Sl} {E : Em} {e : List Int} (h : GStep w b V sd se sp E e w' s') (R : RepD w b V sd se sp E) (ho : ∀ k, own k ↔ gOwn b V sd se sp k) :
    DPost w b own { E with evs := E.evs ++ [e] } (w'.setRow b (hoA V E.now.num (gR sd s' sp E.err))) := by
  have hl := R.host.lt
  have nb : ¬ s'.owns b := fun hb => by
    rcases h.own b hb with h1 | h1
    · exact R.apE h1
    · omega
  have k1 : Kept (fun k => k = b) w' (w'.setRow b (hoA V E.now.num (gR sd s' sp E.err))) := (Kept.refl _ _).setRow b _ (fun _ => rfl)
  have hlt : ∀ k, s'.owns k → k < w'.heap.size := fun k hk => by
    rcases h.own k hk with h1 | h1
    · have := R.inE k h1; have := h.kept.size; omega
    · exact h1.2
  have hV := R.host.rep.kept h.kept (fun k hk => (R.apVE k hk).1)
  have hsz := h.kept.size
  refine ⟨gOwn b V sd s' sp, ⟨V, sd, s', sp, ⟨⟨by rw [blk_setRow _ _ _ _ h.free, if_pos rfl], by rw [free_setRow]; exact h.free, hV.kept k1 (fun k hk e => R.host.apart (by have e : k = b := e; rw [← e]; exact hk)), R.host.apart, fun k hk => ?_⟩, ?_, ?_, ?_, ?_, ?_, ?_, ?_, ?_, R.apD, nb, R.apP, fun k hk => ⟨fun h2 => ?_, (R.apVE k hk).2⟩, fun k hk => ⟨fun h2 => ?_, (R.apDE k hk).2⟩, fun k hk h2 => ?_⟩, fun _ => Iff.rfl⟩, ?_, fun k hk => ?_⟩
  · rw [size_setRow]; have := R.host.in' k hk; omega
  · exact (R.drs.kept h.kept (fun hl => (R.apDE _ (owns_of R.drs hl)).1)).kept k1 (fun hl e => R.apD (by have e : sd.b = b := e; rw [← e]; exact owns_of R.drs hl))
  · exact h.evs.kept k1 (fun hl e => nb (by have e : s'.b = b := e; rw [← e]; exact owns_ofR h.evs hl))
  · exact h.evR.kept k1 (fun k hk e => nb (by have e : k = b := e; rw [← e]; exact hk))
  · exact (R.pend.kept h.kept (fun hl h2 => R.apEP _ h2 (owns_ofR R.pend hl))).kept k1 (fun hl e => R.apP (by have e : sp.b = b := e; rw [← e]; exact owns_ofR R.pend hl))
  · exact (R.pendR.kept h.kept (fun k hk h2 => R.apEP _ h2 hk)).kept k1 (fun k hk e => R.apP (by have e : k = b := e; rw [← e]; exact hk))
  · exact fun k hk => by rw [size_setRow]; have := R.inD k hk; omega
  · exact fun k hk => by rw [size_setRow]; exact hlt k hk
  · exact fun k hk => by rw [size_setRow]; have := R.inP k hk; omega
  · rcases h.own k h2 with h1 | h1
    · exact (R.apVE k hk).1 h1
    · have := R.host.in' k hk; omega
  · rcases h.own k h2 with h1 | h1
    · exact (R.apDE k hk).1 h1
    · have := R.inD k hk; omega
  · rcases h.own k hk with h1 | h1
    · exact R.apEP k h1 h2
    · have := R.inP k h2; omega
  · exact (h.kept.mono (o2 := own) (fun k _ h => (ho k).2 (Or.inr (Or.inr (Or.inr (Or.inl h)))))).trans k1 (fun k _ e => (ho k).2 (Or.inl e))
  · rcases hk with h1 | h1 | h1 | h1 | h1
    · exact Or.inl ((ho k).2 (Or.inl h1))
    · exact Or.inl ((ho k).2 (Or.inr (Or.inl h1)))
    · exact Or.inl ((ho k).2 (Or.inr (Or.inr (Or.inl h1))))
    · rcases h.own k h1 with h2 | h2
      · exact Or.inl ((ho k).2 (Or.inr (Or.inr (Or.inr (Or.inl h2)))))
      · exact Or.inr ⟨h2.1, by rw [size_setRow]; exact h2.2⟩
    · exact Or.inl ((ho k).2 (Or.inr (Or.inr (Or.inr (Or.inr h1)))))
theorem RepD.grow {w w' : World} {b : Nat} {V : SV} {sd se sp : Sl} {E : Em} (h : RepD w b V sd se sp E) (g : Grow w w') : RepD w' b V sd se sp E := h.kept (g.kept (fun _ => False)) (fun _ _ h => h)
/-- The world behind the append to what is pending. -/
structure GPend (w : World) (b : Nat) (V : SV) (sd se sp : Sl) (E : Em) (e : List Int) (w' : World) (s' : Sl) : Prop where
  blk : w'.blk b = hoA V E.now.num (gR sd se sp E.err)
  free : w'.free b = true
  pend : Rows' w' s' 3 (E.pend ++ [e])
  pendR : Room w' s' 3
  kept : Kept sp.owns w w'
  own : ∀ k, s'.owns k → sp.owns k ∨ (w.heap.size ≤ k ∧ k < w'.heap.size)
theorem g_pend {w W1 w' : World} {b : Nat} {V : SV} {sd se sp s' : Sl} {E : Em} {e : List Int} (R : RepD w b V sd se sp E) (he : e.length = 3) (g : Grow w W1) (c1 : Cells w' s' 3 (flat E.pend ++ flat [e])) (c2 : Room w' s' 3) (c3 : Kept sp.owns W1 w')
    (c4 : ∀ k, s'.owns k → sp.owns k ∨ (W1.heap.size ≤ k ∧ k < w'.heap.size)) : GPend w b V sd se sp E e w' s' := by
  have hl := R.host.lt
  have hg := R.host.grow g
  have hl1 := hg.lt
  refine ⟨by rw [c3.blk b hl1 R.apP, hg.blk], by rw [c3.free b hl1 R.apP]; exact hg.free, ?_, c2, (g.kept _).trans c3 (fun _ _ h => h), fun k hk => ?_⟩
  · exact Cells.rows (by rw [flat_append]; exact c1) (by omega) (wid_append R.pend.wid (fun i hi => by
      have : i = 0 := by simp at hi; omega
      subst this; exact he))
  · rcases c4 k hk with h | h
    · exact Or.inl h
    · exact Or.inr ⟨Nat.le_trans g.size h.1, h.2⟩
theorem GPend.post {w w' : World} {b : Nat} {own : Nat → Prop} {V : SV} {sd se sp s' : Sl} {E : Em} {e : List Int} (h : GPend w b V sd se sp E e w' s') (R : RepD w b V sd se sp E) (ho : ∀ k, own k ↔ gOwn b V sd se sp k) :
    DPost w b own { E with pend := E.pend ++ [e] } (w'.setRow b (hoA V E.now.num (gR sd se s' E.err))) := by
  have hl := R.host.lt
  have nb : ¬ s'.owns b := fun hb => by
    rcases h.own b hb with h1 | h1
    · exact R.apP h1
    · omega
  have k1 : Kept (fun k => k = b) w' (w'.setRow b (hoA V E.now.num (gR sd se s' E.err))) := (Kept.refl _ _).setRow b _ (fun _ => rfl)
  have hlt : ∀ k, s'.owns k → k < w'.heap.size := fun k hk => by
    rcases h.own k hk with h1 | h1
    · have := R.inP k h1; have := h.kept.size; omega
    · exact h1.2
  have hV := R.host.rep.kept h.kept (fun k hk => (R.apVE k hk).2)
  have hsz := h.kept.size
  refine ⟨gOwn b V sd se s', ⟨V, sd, se, s', ⟨⟨by rw [blk_setRow _ _ _ _ h.free, if_pos rfl], by rw [free_setRow]; exact h.free, hV.kept k1 (fun k hk e => R.host.apart (by have e : k = b := e; rw [← e]; exact hk)), R.host.apart, fun k hk => ?_⟩, ?_, ?_, ?_, ?_, ?_, ?_, ?_, ?_, R.apD, R.apE, nb, fun k hk => ⟨(R.apVE k hk).1, fun h2 => ?_⟩, fun k hk => ⟨(R.apDE k hk).1, fun h2 => ?_⟩, fun k hk h2 => ?_⟩, fun _ => Iff.rfl⟩, ?_, fun k hk => ?_⟩
  · rw [size_setRow]; have := R.host.in' k hk; omega
  · exact (R.drs.kept h.kept (fun hl => (R.apDE _ (owns_of R.drs hl)).2)).kept k1 (fun hl e => R.apD (by have e : sd.b = b := e; rw [← e]; exact owns_of R.drs hl))
  · exact (R.evs.kept h.kept (fun hl => R.apEP _ (owns_ofR R.evs hl))).kept k1 (fun hl e => R.apE (by have e : se.b = b := e; rw [← e]; exact owns_ofR R.evs hl))
  · exact (R.evR.kept h.kept (fun k hk => R.apEP _ hk)).kept k1 (fun k hk e => R.apE (by have e : k = b := e; rw [← e]; exact hk))
  · exact h.pend.kept k1 (fun hl e => nb (by have e : s'.b = b := e; rw [← e]; exact owns_ofR h.pend hl))
  · exact h.pendR.kept k1 (fun k hk e => nb (by have e : k = b := e; rw [← e]; exact hk))
  · exact fun k hk => by rw [size_setRow]; have := R.inD k hk; omega
  · exact fun k hk => by rw [size_setRow]; have := R.inE k hk; omega
  · exact fun k hk => by rw [size_setRow]; exact hlt k hk
  · rcases h.own k h2 with h1 | h1
    · exact (R.apVE k hk).2 h1
    · have := R.host.in' k hk; omega
  · rcases h.own k h2 with h1 | h1
    · exact (R.apDE k hk).2 h1
    · have := R.inD k hk; omega
  · rcases h.own k h2 with h1 | h1
    · exact R.apEP k hk h1
    · have := R.inE k hk; omega
  · exact (h.kept.mono (o2 := own) (fun k _ h => (ho k).2 (Or.inr (Or.inr (Or.inr (Or.inr h)))))).trans k1 (fun k _ e => (ho k).2 (Or.inl e))
  · rcases hk with h1 | h1 | h1 | h1 | h1
    · exact Or.inl ((ho k).2 (Or.inl h1))
    · exact Or.inl ((ho k).2 (Or.inr (Or.inl h1)))
    · exact Or.inl ((ho k).2 (Or.inr (Or.inr (Or.inl h1))))
    · exact Or.inl ((ho k).2 (Or.inr (Or.inr (Or.inr (Or.inl h1)))))
    · rcases h.own k h1 with h2 | h2
      · exact Or.inl ((ho k).2 (Or.inr (Or.inr (Or.inr (Or.inr h2)))))
      · exact Or.inr ⟨h2.1, by rw [size_setRow]; exact h2.2⟩
end Go.Proofs.YtnjclibennadcaaGreatDoor
namespace Go.Proofs.YtnjclibennadcaaGreatDoor
open Go Go.RowKit Go.Shelf

theorem RepD.cells {w : World} {b : Nat} {V : SV} {sd se sp : Sl} {E : Em} (h : RepD w b V sd se sp E) : w.cell? ⟨b, 37, none⟩ = some sd.val ∧ w.cell? ⟨b, 38, none⟩ = some se.val ∧ w.cell? ⟨b, 39, none⟩ = some sp.val ∧ w.cell? ⟨b, 40, none⟩ = some (I E.err) := by
  have hc := cell_of_blk h.host.free h.host.blk
  refine ⟨(hc 37).trans (hoAg_37 _ _ _ _ _ _), (hc 38).trans (hoAg_38 _ _ _ _ _ _), (hc 39).trans (hoAg_39 _ _ _ _ _ _), (hc 40).trans ?_⟩
  rw [show 40 = 37 + 3 from rfl, hoA_rest]; rfl
theorem do1_err {E : Em} (h : E.err ≠ 0) (e : List Int) : E.do1 e = E := by unfold Em.do1; rw [if_pos h]
set_option maxRecDepth 100000 in
set_option maxHeartbeats 4000000 in
theorem gdo_any (w : World) (b : Nat) (own : Nat → Prop) (E : Em) (R : Gmt w b own E) (hS : Small E.now) (hev : E.err = 0 → E.evs.length < 65536) (e : List Int) (he : e.length = 6) (k0 : gt e 0 ≠ 0) (k5 : gt e 0 ≠ 5) :
    Calls Tryz.prog 126 #[.pointer (some ⟨b, 0, none⟩), .agg (cellsOf e)] w fun r w' => r = .returned (.tuple #[]) ∧ DPost w b own (E.do1 e) w' := by
  have HR0 := Lib.hid R
  obtain ⟨V, sd, se, sp, hr, ho⟩ := R
  have hH := hr.host
  obtain ⟨_, hc38, _, hc40⟩ := hr.cells
  have hcell := cell_of_blk (hH).free (hH).blk; have hfz := frozen_of_free (hH).free; have hset := setCell_of_blk (hH).free (hH).blk; have hblk := (hH).blk; have hfree := (hH).free; have hlt := (hH).lt; have hne1 : ¬ b = (w).heap.size := (by omega); have hne2 : ¬ (w).heap.size = b := (by omega)
  have HR := Lib.hid hr
  have HO := Lib.hid ho
  have hsn := hr.evs.len
  have HAp := Lib.hid (fun W (g : Grow w W) => apply_any E.now V e he W (hr.host.rep.grow g) hS k0 k5)
  by_cases hz : E.err = 0
  · have hev1 := hev hz
    rw [hz] at hc40
    cases hd : doEv E.now e with
    | error n =>
      have hn := doEv_err hd
      have hnb : (n == 0) = false := by simpa using hn
      have hnb2 : (n != 0) = true := by simpa using hn
      have h1 : E.do1 e = { E with err := n } := by unfold Em.do1; rw [if_neg (by rw [hz]; simp), hd]
      rw [hd] at HAp
      have hs := hset 40 (I n)
      rw [hoAg_s40] at hs
      rw [h1]
      clear hr ho hH hset hcell hd hn h1 hz k0 k5 hev hS
      go_enter Tryz.func126, Tryz.ntmps126
      go_wp2_with fail
      go_region_held3 (fun W => W.blk b = hoA V E.now.num (gR sd se sp E.err) ∧ W.blk w.heap.size = cellsOf e) (simp [go_sem, *]) (first | (go_at_call 108; refine (HAp.out _ grI).mono ?_; rintro r w' ⟨rfl, nx, rfl⟩))
      all_goals
        go_wp2_with fail
        refine bodyPost_ret (results_none rfl _ _ _) rfl ?_
        exact ⟨rfl, Gmt.setErr HR.out HO.out n grI⟩
    | ok S' =>
      have h1 : E.do1 e = { E with now := S', evs := E.evs ++ [e] } := by unfold Em.do1; rw [if_neg (by rw [hz]; simp), hd]; exact if_pos hev1
      rw [hd] at HAp
      rw [h1]
      have hev2 : (E.evs.length : Int) < 65536 := by omega
      have hev3 : ((65536 : Int) ≤ (E.evs.length : Int)) = False := by simp; omega
      have hev4 : (65536 ≤ E.evs.length) = False := by simp; omega
      clear hr ho hH hset hcell hd h1 hz k0 k5 hev hS
      go_enter Tryz.func126, Tryz.ntmps126
      go_wp2_with fail
      go_region_held3 (fun W => W.blk b = hoA V E.now.num (gR sd se sp E.err) ∧ W.blk w.heap.size = cellsOf e) (simp [go_sem, *]) (first | (go_at_call 108; refine (HAp.out _ grI).mono ?_; rintro r w' ⟨V', rfl, hR', hu, nx, rfl⟩; (try simp only [drew_plus] at hR'); (try simp only [plus_plus] at hR'); have HR2 := Lib.hid hR'; have HU := Lib.hid hu; clear hR' hu))
      · have hG1 : Grow w (((w.alloc (.cells (cellsOf e) 136)).plus nx.late).alloc (.cells (stA V' S'.num) 29)) := grI
        have hR1 : RepSt (((w.alloc (.cells (cellsOf e) 136)).plus nx.late).alloc (.cells (stA V' S'.num) 29)) V' S' := HR2.out.grow grI
        have hU1 : ∀ k, V'.uses k → w.heap.size ≤ k ∧ k < (((w.alloc (.cells (cellsOf e) 136)).plus nx.late).alloc (.cells (stA V' S'.num) 29)).heap.size := fun k hk => by have := HU.out k hk; simp only [drew_plus, plus_size, alloc_size', Ext.late] at this ⊢; rw [show ∀ (W : World), W.drew.heap.size = W.heap.size from fun _ => rfl] at this; simp only [alloc_size'] at this; exact ⟨by omega, by omega⟩
        have hq1 : (((w.alloc (.cells (cellsOf e) 136)).plus nx.late).alloc (.cells (stA V' S'.num) 29)).blk (w.heap.size + 1 + nx.late.objs.size) = stA V' S'.num := by go_simp
        have hq2 : (((w.alloc (.cells (cellsOf e) 136)).plus nx.late).alloc (.cells (stA V' S'.num) 29)).blk w.heap.size = cellsOf e := by go_simp
        have hq3 : (((w.alloc (.cells (cellsOf e) 136)).plus nx.late).alloc (.cells (stA V' S'.num) 29)).free w.heap.size = true := by go_simp
        have hq4 : w.heap.size < (((w.alloc (.cells (cellsOf e) 136)).plus nx.late).alloc (.cells (stA V' S'.num) 29)).heap.size := by simp only [plus_size, alloc_size']; omega
        have hq5 : (w.heap.size + 1 + nx.late.objs.size) < (((w.alloc (.cells (cellsOf e) 136)).plus nx.late).alloc (.cells (stA V' S'.num) 29)).heap.size := by simp only [plus_size, alloc_size']; omega
        have hq6 : ¬ (w.heap.size + 1 + nx.late.objs.size) = b := by omega
        have hq7 : ¬ (w.heap.size + 1 + nx.late.objs.size) = w.heap.size := by omega
        have hq8 : ¬ b = (w.heap.size + 1 + nx.late.objs.size) := by omega
        clear HR2 HU
        generalize (((w.alloc (.cells (cellsOf e) 136)).plus nx.late).alloc (.cells (stA V' S'.num) 29)) = W1 at *
        generalize (w.heap.size + 1 + nx.late.objs.size) = b4 at *
        have hG2 := HR.out.grow hG1
        have hst := run_store_host W1 b V V' E.now.num S'.num (gR sd se sp E.err) hG2.host.blk hG2.host.free
        have kk : Kept (fun k => k = b) w (W1.setRow b (hoA V' S'.num (gR sd se sp E.err))) := (hG1.kept _).setRow b _ (fun _ => rfl)
        have k1 : Kept (fun k => k = b) W1 (W1.setRow b (hoA V' S'.num (gR sd se sp E.err))) := (Kept.refl _ _).setRow b _ (fun _ => rfl)
        have hnb : ¬ V'.uses b := fun hu => by have := (hU1 b hu).1; omega
        have hd2 : RepD (W1.setRow b (hoA V' S'.num (gR sd se sp E.err))) b V' sd se sp { E with now := S' } := HR.out.done ⟨by rw [blk_setRow _ _ _ _ hG2.host.free, if_pos rfl], by rw [free_setRow]; exact hG2.host.free, hR1.kept k1 (fun k hk (ek : k = b) => hnb (ek ▸ hk)), hnb, fun k hk => by rw [size_setRow]; exact (hU1 k hk).2⟩ kk (fun k hk => .inr ⟨(hU1 k hk).1, by rw [size_setRow]; exact (hU1 k hk).2⟩)
        have hK2 : Kept own w (W1.setRow b (hoA V' S'.num (gR sd se sp E.err))) := kk.mono (fun k _ ek => (HO.out k).2 (.inl ek))
        have hO2 : ∀ k, gOwn b V' sd se sp k → own k ∨ (w.heap.size ≤ k ∧ k < (W1.setRow b (hoA V' S'.num (gR sd se sp E.err))).heap.size) := fun k hk => by
          rcases hk with h | h | h | h | h
          · exact .inl ((HO.out k).2 (.inl h))
          · exact .inr ⟨(hU1 k h).1, by rw [size_setRow]; exact (hU1 k h).2⟩
          · exact .inl ((HO.out k).2 (.inr (.inr (.inl h))))
          · exact .inl ((HO.out k).2 (.inr (.inr (.inr (.inl h)))))
          · exact .inl ((HO.out k).2 (.inr (.inr (.inr (.inr h)))))
        obtain ⟨_, hd38, _, hd40⟩ := hG2.cells
        have hp2 : (W1.setRow b (hoA V' S'.num (gR sd se sp E.err))).blk w.heap.size = cellsOf e := by rw [blk_setRow _ _ _ _ hG2.host.free, if_neg hne2]; exact hq2
        have hp3 : (W1.setRow b (hoA V' S'.num (gR sd se sp E.err))).free w.heap.size = true := by rw [free_setRow]; exact hq3
        have hp4 : (W1.setRow b (hoA V' S'.num (gR sd se sp E.err))).heap.size = W1.heap.size := size_setRow _ _ _
        generalize W1.setRow b (hoA V' S'.num (gR sd se sp E.err)) = W2 at *
        have hH2 := hd2.host
        have hcell2 := cell_of_blk hH2.free hH2.blk
        have hfz2 := frozen_of_free hH2.free
        have hset2 := setCell_of_blk hH2.free hH2.blk
        have hfree2 := hH2.free
        have hlt2 := hH2.lt
        have hsen : se.n = E.evs.length := hd2.evs.len
        obtain ⟨_, he38, _, _⟩ := hd2.cells
        have hne3 : ¬ b = W2.heap.size := by omega
        have hne4 : ¬ W2.heap.size = b := by omega
        have hne5 : ¬ w.heap.size = W2.heap.size := by omega
        have hqs : w.heap.size < W2.heap.size := by omega
        have HRd := Lib.hid hd2
        have HK2 := Lib.hid hK2
        have HO2 := Lib.hid hO2
        clear hp4 hd2 hK2 hO2 hH2 hR1 hU1 hnb kk k1 hG1 hG2 hfz hblk hfree HR HO HR0 HAp
        go_wp2_with fail
        go_region_law (first | ((refine step_append_cells (by rfl) _ _ 79 (by rfl) 136 Tryz.t136 (.agg (cellsOf (List.replicate 6 0))) 6 48 Tryz.underlying79 (by kernel_rfl) (by kernel_rfl) (by kernel_rfl) (by kernel_rfl) (by omega) rfl se (.mk _ 0 1 1) (flat E.evs) (flat [e]) (by rfl) (by rfl) (HRd.out.evs.cells.grow grI) (HRd.out.evR.grow grI) (one_row _ _ 6 e he (by go_simp)) (flat_oneCell _) (flat_oneCell _) (by rw [hsen]; show E.evs.length + 1 ≤ 4194304; omega) ?_; intro s' w' c1 c2 c3 c4 c5 c6; have hS := g_step HRd.out he grI c1 c2 c3 c4; have hq3 := hS.blk; have hqf3 := hS.free; have hqc := cell_of_blk hqf3 hq3; have hqz := frozen_of_free hqf3; have hqs3 := setCell_of_blk hqf3 hq3; have HS := Lib.hid hS; clear hS hq3 c1 c2 c3 c4 c5 c6)))
        all_goals
          go_wp2_with fail
          go_end0
          exact ⟨rfl, DPost.then HK2.out HO2.out (HS.out.post HRd.out (fun _ => Iff.rfl))⟩
      · have hG1 : Grow w (((w.alloc (.cells (cellsOf e) 136)).alloc (.cells (stA V' S'.num) 29)).plus nx.late) := grI
        have hR1 : RepSt (((w.alloc (.cells (cellsOf e) 136)).alloc (.cells (stA V' S'.num) 29)).plus nx.late) V' S' := HR2.out.off12 (b := w.heap.size + 1) (by repeat (first | exact Off.base _ _ _ _ (by simp only [alloc_size']) | refine Off.plus ?_ _ | refine Off.alloc ?_ _)) (fun hu => by have := (HU.out _ hu).1; rw [show ∀ (W : World), W.drew.heap.size = W.heap.size from fun _ => rfl] at this; simp only [alloc_size'] at this; omega)
        have hU1 : ∀ k, V'.uses k → w.heap.size ≤ k ∧ k < (((w.alloc (.cells (cellsOf e) 136)).alloc (.cells (stA V' S'.num) 29)).plus nx.late).heap.size := fun k hk => by have := HU.out k hk; simp only [drew_plus, plus_size, alloc_size', Ext.late] at this ⊢; rw [show ∀ (W : World), W.drew.heap.size = W.heap.size from fun _ => rfl] at this; simp only [alloc_size'] at this; exact ⟨by omega, by omega⟩
        have hq1 : (((w.alloc (.cells (cellsOf e) 136)).alloc (.cells (stA V' S'.num) 29)).plus nx.late).blk (w.heap.size + 1) = stA V' S'.num := by go_simp
        have hq2 : (((w.alloc (.cells (cellsOf e) 136)).alloc (.cells (stA V' S'.num) 29)).plus nx.late).blk w.heap.size = cellsOf e := by go_simp
        have hq3 : (((w.alloc (.cells (cellsOf e) 136)).alloc (.cells (stA V' S'.num) 29)).plus nx.late).free w.heap.size = true := by go_simp
        have hq4 : w.heap.size < (((w.alloc (.cells (cellsOf e) 136)).alloc (.cells (stA V' S'.num) 29)).plus nx.late).heap.size := by simp only [plus_size, alloc_size']; omega
        have hq5 : (w.heap.size + 1) < (((w.alloc (.cells (cellsOf e) 136)).alloc (.cells (stA V' S'.num) 29)).plus nx.late).heap.size := by simp only [plus_size, alloc_size']; omega
        have hq6 : ¬ (w.heap.size + 1) = b := by omega
        have hq7 : ¬ (w.heap.size + 1) = w.heap.size := by omega
        have hq8 : ¬ b = (w.heap.size + 1) := by omega
        clear HR2 HU
        generalize (((w.alloc (.cells (cellsOf e) 136)).alloc (.cells (stA V' S'.num) 29)).plus nx.late) = W1 at *
        generalize (w.heap.size + 1) = b4 at *
        have hG2 := HR.out.grow hG1
        have hst := run_store_host W1 b V V' E.now.num S'.num (gR sd se sp E.err) hG2.host.blk hG2.host.free
        have kk : Kept (fun k => k = b) w (W1.setRow b (hoA V' S'.num (gR sd se sp E.err))) := (hG1.kept _).setRow b _ (fun _ => rfl)
        have k1 : Kept (fun k => k = b) W1 (W1.setRow b (hoA V' S'.num (gR sd se sp E.err))) := (Kept.refl _ _).setRow b _ (fun _ => rfl)
        have hnb : ¬ V'.uses b := fun hu => by have := (hU1 b hu).1; omega
        have hd2 : RepD (W1.setRow b (hoA V' S'.num (gR sd se sp E.err))) b V' sd se sp { E with now := S' } := HR.out.done ⟨by rw [blk_setRow _ _ _ _ hG2.host.free, if_pos rfl], by rw [free_setRow]; exact hG2.host.free, hR1.kept k1 (fun k hk (ek : k = b) => hnb (ek ▸ hk)), hnb, fun k hk => by rw [size_setRow]; exact (hU1 k hk).2⟩ kk (fun k hk => .inr ⟨(hU1 k hk).1, by rw [size_setRow]; exact (hU1 k hk).2⟩)
        have hK2 : Kept own w (W1.setRow b (hoA V' S'.num (gR sd se sp E.err))) := kk.mono (fun k _ ek => (HO.out k).2 (.inl ek))
        have hO2 : ∀ k, gOwn b V' sd se sp k → own k ∨ (w.heap.size ≤ k ∧ k < (W1.setRow b (hoA V' S'.num (gR sd se sp E.err))).heap.size) := fun k hk => by
          rcases hk with h | h | h | h | h
          · exact .inl ((HO.out k).2 (.inl h))
          · exact .inr ⟨(hU1 k h).1, by rw [size_setRow]; exact (hU1 k h).2⟩
          · exact .inl ((HO.out k).2 (.inr (.inr (.inl h))))
          · exact .inl ((HO.out k).2 (.inr (.inr (.inr (.inl h)))))
          · exact .inl ((HO.out k).2 (.inr (.inr (.inr (.inr h)))))
        obtain ⟨_, hd38, _, hd40⟩ := hG2.cells
        have hp2 : (W1.setRow b (hoA V' S'.num (gR sd se sp E.err))).blk w.heap.size = cellsOf e := by rw [blk_setRow _ _ _ _ hG2.host.free, if_neg hne2]; exact hq2
        have hp3 : (W1.setRow b (hoA V' S'.num (gR sd se sp E.err))).free w.heap.size = true := by rw [free_setRow]; exact hq3
        have hp4 : (W1.setRow b (hoA V' S'.num (gR sd se sp E.err))).heap.size = W1.heap.size := size_setRow _ _ _
        generalize W1.setRow b (hoA V' S'.num (gR sd se sp E.err)) = W2 at *
        have hH2 := hd2.host
        have hcell2 := cell_of_blk hH2.free hH2.blk
        have hfz2 := frozen_of_free hH2.free
        have hset2 := setCell_of_blk hH2.free hH2.blk
        have hfree2 := hH2.free
        have hlt2 := hH2.lt
        have hsen : se.n = E.evs.length := hd2.evs.len
        obtain ⟨_, he38, _, _⟩ := hd2.cells
        have hne3 : ¬ b = W2.heap.size := by omega
        have hne4 : ¬ W2.heap.size = b := by omega
        have hne5 : ¬ w.heap.size = W2.heap.size := by omega
        have hqs : w.heap.size < W2.heap.size := by omega
        have HRd := Lib.hid hd2
        have HK2 := Lib.hid hK2
        have HO2 := Lib.hid hO2
        clear hp4 hd2 hK2 hO2 hH2 hR1 hU1 hnb kk k1 hG1 hG2 hfz hblk hfree HR HO HR0 HAp
        go_wp2_with fail
        go_region_law (first | ((refine step_append_cells (by rfl) _ _ 79 (by rfl) 136 Tryz.t136 (.agg (cellsOf (List.replicate 6 0))) 6 48 Tryz.underlying79 (by kernel_rfl) (by kernel_rfl) (by kernel_rfl) (by kernel_rfl) (by omega) rfl se (.mk _ 0 1 1) (flat E.evs) (flat [e]) (by rfl) (by rfl) (HRd.out.evs.cells.grow grI) (HRd.out.evR.grow grI) (one_row _ _ 6 e he (by go_simp)) (flat_oneCell _) (flat_oneCell _) (by rw [hsen]; show E.evs.length + 1 ≤ 4194304; omega) ?_; intro s' w' c1 c2 c3 c4 c5 c6; have hS := g_step HRd.out he grI c1 c2 c3 c4; have hq3 := hS.blk; have hqf3 := hS.free; have hqc := cell_of_blk hqf3 hq3; have hqz := frozen_of_free hqf3; have hqs3 := setCell_of_blk hqf3 hq3; have HS := Lib.hid hS; clear hS hq3 c1 c2 c3 c4 c5 c6)))
        all_goals
          go_wp2_with fail
          go_end0
          exact ⟨rfl, DPost.then HK2.out HO2.out (HS.out.post HRd.out (fun _ => Iff.rfl))⟩
  · have hzb : (E.err != 0) = true := by simpa using hz
    rw [do1_err hz]
    clear hr ho hH hset hcell hz k0 k5 hev hS
    go_enter Tryz.func126, Tryz.ntmps126
    go_wp2_with fail
    refine bodyPost_ret (results_none rfl _ _ _) rfl ?_
    exact ⟨rfl, .of_grow HR0.out grI⟩
end Go.Proofs.YtnjclibennadcaaGreatDoor
namespace Go.Proofs.YtnjclibennadcaaGreatDoor
open Go Go.RowKit Go.Shelf

theorem check_set19 (a f : Nat) (u v : Int) (hf : f < 18) (h3 : f ≠ 3) (hv : -1073741824 ≤ v ∧ v ≤ 1073741824) : evCheck [2, (a : Int), (f : Int), u, v, 0] = 0 := by
  have hf2 : ¬ (f : Int) = 3 := by omega
  unfold evCheck evSpare evRanges evMakes inR evSmall inB
  simp only [gt, List.getD_cons_zero, List.getD_cons_succ]
  simp
  omega
theorem check_gset (f : Nat) (u v : Int) (hf : f < 7) (hv : -1073741824 ≤ v ∧ v ≤ 1073741824) : evCheck [4, 0, (f : Int), u, v, 0] = 0 := by
  unfold evCheck evSpare evRanges evMakes inR evSmall inB
  simp only [gt, List.getD_cons_zero, List.getD_cons_succ]
  simp
  omega
theorem fail_zero {E : Em} (h : E.err = 0) : E.fail 0 = E := by unfold Em.fail; rw [if_pos h, ← h]
/-- What Set does, where it may. -/
theorem setObj_is (E : Em) (a f : Nat) (v : Int) (ha : a < E.now.objs.length) (hf : f < 18) (h3 : f ≠ 3) (hv : -1073741824 ≤ v ∧ v ≤ 1073741824) :
    E.setObj a f v = if E.err ≠ 0 then E else if gt (rowAt E.now.objs a) f = v then E else E.do1 [2, (a : Int), (f : Int), gt (rowAt E.now.objs a) f, v, 0] := by
  unfold Em.setObj
  by_cases he : E.err = 0
  · have hne : ¬ E.err ≠ 0 := by rw [he]; simp
    have hno : ¬ (evCheck [2, (a : Int), (f : Int), 0, 0, 0] ≠ 0 ∨ (E.now.objs.length : Int) ≤ (a : Int)) := by rw [check_set19 a f 0 0 hf h3 (by omega)]; simp; omega
    rw [if_neg hne, if_neg hne, if_neg hno]
    unfold Em.set
    rw [Int.toNat_natCast, Int.toNat_natCast]
    by_cases hx : gt (rowAt E.now.objs a) f = v
    · rw [if_pos hx, if_pos hx]
      show E.fail (evCheck [2, (a : Int), (f : Int), gt (rowAt E.now.objs a) f, v, 0]) = E
      rw [check_set19 a f _ v hf h3 hv, fail_zero he]
    · rw [if_neg hx, if_neg hx]; rfl
  · rw [if_pos he, if_pos he]
theorem setGame_of (E : Em) (f : Nat) (v : Int) (hf : f < 7) (hv : -1073741824 ≤ v ∧ v ≤ 1073741824) :
    E.setGame f v = if E.err ≠ 0 then E else if E.now.num (18 + f) = v then E else E.do1 [4, 0, (f : Int), E.now.num (18 + f), v, 0] := by
  unfold Em.setGame
  by_cases he : E.err = 0
  · have hne : ¬ E.err ≠ 0 := by rw [he]; simp
    have hno : ¬ (evCheck [4, 0, (f : Int), 0, 0, 0] ≠ 0) := by rw [check_gset f 0 0 hf (by omega)]; simp
    rw [if_neg hne, if_neg hne, if_neg hno]
    unfold Em.set
    rw [Int.toNat_natCast]
    by_cases hx : E.now.num (18 + f) = v
    · rw [if_pos hx, if_pos hx]
      show E.fail (evCheck [4, 0, (f : Int), E.now.num (18 + f), v, 0]) = E
      rw [check_gset f _ v hf hv, fail_zero he]
    · rw [if_neg hx, if_neg hx]; rfl
  · rw [if_pos he, if_pos he]
@[go_sem] theorem run_build_gObj (w : World) (a f n : Int) : (bdRow 136 #[(0, .int .i64 2), (1, .int .i64 a), (2, .int .i64 f), (4, .int .i64 n)]).run Tryz.prog w = .ok (.value (.agg (cellsOf [2, a, f, 0, n, 0]))) w := by kernel_rfl
@[go_sem] theorem run_build_gGame (w : World) (f n : Int) : (bdRow 136 #[(0, .int .i64 4), (2, .int .i64 f), (4, .int .i64 n)]).run Tryz.prog w = .ok (.value (.agg (cellsOf [4, 0, f, 0, n, 0]))) w := by kernel_rfl
set_option maxRecDepth 100000 in
set_option maxHeartbeats 4000000 in
theorem gset_any (w : World) (b : Nat) (own : Nat → Prop) (E : Em) (R : Gmt w b own E) (hS : Small E.now) (hev : E.err = 0 → E.evs.length < 65536) (a f : Nat) (v : Int) (ha : a < E.now.objs.length) (hf : f < 18) (h3 : f ≠ 3) (hv : -1073741824 ≤ v ∧ v ≤ 1073741824) :
    Calls Tryz.prog 79 #[.pointer (some ⟨b, 0, none⟩), .int .i64 (a : Int), .int .i64 (f : Int), .int .i64 v] w fun r w' => r = .returned (.tuple #[]) ∧ DPost w b own (E.setObj a f v) w' := by
  have HR0 := Lib.hid R
  have HCk := Lib.hid (fun W => by have := check12_any [2, (a : Int), (f : Int), 0, v, 0] rfl W; rw [check_set19 a f 0 v hf h3 hv] at this; exact this)
  have HD := Lib.hid (fun W (g : Grow w W) u => gdo_any W b own E (R.grow g) hS hev [2, (a : Int), (f : Int), u, v, 0] rfl (by simp [gt]) (by simp [gt]))
  have HT := Lib.hid (setObj_is E a f v ha hf h3 hv)
  have h2 := fun (h : E.err ≠ 0) e => do1_err h e
  have HE := Lib.hid h2
  obtain ⟨V, sd, se, sp, hr, ho⟩ := R
  have hoc := hr.host.rep.objs.cell a f ha (by omega)
  have hN := hr.host.rep.objs.len
  have hob := (cell_blk hoc).1
  have hH := hr.host
  have hcell := cell_of_blk (hH).free (hH).blk; have hfz := frozen_of_free (hH).free; have hset := setCell_of_blk (hH).free (hH).blk; have hblk := (hH).blk; have hfree := (hH).free; have hlt := (hH).lt; have hne1 : ¬ b = (w).heap.size := (by omega); have hne2 : ¬ (w).heap.size = b := (by omega)
  have ha1 : (a : Int) < (E.now.objs.length : Int) := by omega
  have ha0 : (0 : Int) ≤ (a : Int) := by omega
  have hf1 : (f : Int) < 18 := by omega
  have hf0 : (0 : Int) ≤ (f : Int) := by omega
  clear hr ho hH hblk hS hev h2 hset
  generalize gt (rowAt E.now.objs a) f = u at *
  by_cases hx : u = v
  · have hT2 : Hid (E.setObj a f v = E) := by rw [Hid, HT.out, if_pos hx]; split <;> rfl
    have hxb : (u == v) = true := by simpa using hx
    clear hx
    rw [hT2.out]
    have hg : gt [2, (a : Int), (f : Int), u, v, 0] 3 = u := rfl
    go_enter Tryz.func79, Tryz.ntmps79
    go_wp2_with (go_at_call 125; refine (HCk.out _).mono ?_; rintro e' w' ⟨rfl, nx, rfl⟩)
    refine bodyPost_ret (results_none rfl _ _ _) rfl ?_
    exact ⟨rfl, .of_grow HR0.out grI⟩
  · have hT2 : Hid (E.setObj a f v = E.do1 [2, (a : Int), (f : Int), u, v, 0]) := by
      rw [Hid, HT.out, if_neg hx]
      split
      · rw [HE.out (by assumption)]
      · rfl
    have hxb : (u == v) = false := by simpa using hx
    clear hx
    rw [hT2.out]
    have hg : gt [2, (a : Int), (f : Int), u, v, 0] 3 = u := rfl
    go_enter Tryz.func79, Tryz.ntmps79
    go_wp2_with (first | (go_at_call 125; refine (HCk.out _).mono ?_; rintro e' w' ⟨rfl, nx, rfl⟩) | (go_at_call 126; refine (HD.out _ grI u).mono ?_; rintro r w' ⟨rfl, hP⟩; have HP := Lib.hid hP; clear hP))
    go_end0
    exact ⟨rfl, DPost.low grI HP.out⟩
set_option maxRecDepth 100000 in
set_option maxHeartbeats 4000000 in
theorem ggame_any (w : World) (b : Nat) (own : Nat → Prop) (E : Em) (R : Gmt w b own E) (hS : Small E.now) (hev : E.err = 0 → E.evs.length < 65536) (f : Nat) (v : Int) (hf : f < 7) (hv : -1073741824 ≤ v ∧ v ≤ 1073741824) :
    Calls Tryz.prog 65 #[.pointer (some ⟨b, 0, none⟩), .int .i64 (f : Int), .int .i64 v] w fun r w' => r = .returned (.tuple #[]) ∧ DPost w b own (E.setGame f v) w' := by
  have HR0 := Lib.hid R
  have HCk := Lib.hid (fun W => by have := check12_any [4, 0, (f : Int), 0, v, 0] rfl W; rw [check_gset f 0 v hf hv] at this; exact this)
  have HD := Lib.hid (fun W (g : Grow w W) u => gdo_any W b own E (R.grow g) hS hev [4, 0, (f : Int), u, v, 0] rfl (by simp [gt]) (by simp [gt]))
  have HT := Lib.hid (setGame_of E f v hf hv)
  have h2 := fun (h : E.err ≠ 0) e => do1_err h e
  have HE := Lib.hid h2
  obtain ⟨V, sd, se, sp, hr, ho⟩ := R
  have hH := hr.host
  have hcell := cell_of_blk (hH).free (hH).blk; have hfz := frozen_of_free (hH).free; have hset := setCell_of_blk (hH).free (hH).blk; have hblk := (hH).blk; have hfree := (hH).free; have hlt := (hH).lt; have hne1 : ¬ b = (w).heap.size := (by omega); have hne2 : ¬ (w).heap.size = b := (by omega)
  have hoc : w.cell? ⟨b, 30 + f, none⟩ = some (I (E.now.num (18 + f))) := by rw [hcell, show 30 + f = 12 + (18 + f) by omega]; exact hoA_num _ _ _ _ (by omega)
  have hf1 : (f : Int) < 7 := by omega
  have hf0 : (0 : Int) ≤ (f : Int) := by omega
  clear hr ho hH hblk hS hev h2 hset hcell
  generalize E.now.num (18 + f) = u at *
  by_cases hx : u = v
  · have hT2 : Hid (E.setGame f v = E) := by rw [Hid, HT.out, if_pos hx]; split <;> rfl
    have hxb : (u == v) = true := by simpa using hx
    clear hx
    rw [hT2.out]
    have hg : gt [4, 0, (f : Int), u, v, 0] 3 = u := rfl
    go_enter Tryz.func65, Tryz.ntmps65
    go_wp2_with (go_at_call 125; refine (HCk.out _).mono ?_; rintro e' w' ⟨rfl, nx, rfl⟩)
    refine bodyPost_ret (results_none rfl _ _ _) rfl ?_
    exact ⟨rfl, .of_grow HR0.out grI⟩
  · have hT2 : Hid (E.setGame f v = E.do1 [4, 0, (f : Int), u, v, 0]) := by
      rw [Hid, HT.out, if_neg hx]
      split
      · rw [HE.out (by assumption)]
      · rfl
    have hxb : (u == v) = false := by simpa using hx
    clear hx
    rw [hT2.out]
    have hg : gt [4, 0, (f : Int), u, v, 0] 3 = u := rfl
    go_enter Tryz.func65, Tryz.ntmps65
    go_wp2_with (first | (go_at_call 125; refine (HCk.out _).mono ?_; rintro e' w' ⟨rfl, nx, rfl⟩) | (go_at_call 126; refine (HD.out _ grI u).mono ?_; rintro r w' ⟨rfl, hP⟩; have HP := Lib.hid hP; clear hP))
    go_end0
    exact ⟨rfl, DPost.low grI HP.out⟩
end Go.Proofs.YtnjclibennadcaaGreatDoor
namespace Go.Proofs.YtnjclibennadcaaGreatDoor
open Go Go.RowKit Go.Shelf

@[go_sem] theorem run_build_obj0 (w : World) : (bdRow 60 #[]).run Tryz.prog w = .ok (.value (.agg (cellsOf [0, 0, 0, 0, 0, 0, 0, 0, 0, 0, 0, 0, 0, 0, 0, 0, 0, 0]))) w := by kernel_rfl
/-- Is a number's bit 1? -/
def bitB (n : Int) (p : Nat) : Bool := n.toNat / 2 ^ p % 2 == 1
/-- The lists whose objects a player knows. -/
theorem zone15_any (z : Nat) (hz : z < 11) (w : World) : Calls Tryz.prog 190 #[.int .i64 (z : Int)] w fun e w' => e = .returned (.int .i64 (kzone z)) ∧ w' = w := by
  have h : z = 0 ∨ z = 1 ∨ z = 2 ∨ z = 3 ∨ z = 4 ∨ z = 5 ∨ z = 6 ∨ z = 7 ∨ z = 8 ∨ z = 9 ∨ z = 10 := by omega
  rcases h with rfl | rfl | rfl | rfl | rfl | rfl | rfl | rfl | rfl | rfl | rfl
  all_goals
    go_enter Tryz.func190, Tryz.ntmps190
    go_wp2_with fail
    go_ret
    exact ⟨by rfl, rfl⟩
set_option maxRecDepth 100000 in
set_option maxHeartbeats 2000000 in
theorem knows15_any (n : Int) (h0 : 0 ≤ n) (h3 : n ≤ 3) (p : Nat) (hp : p < 2) (w : World) :
    Calls Tryz.prog 262 #[.agg (cellsOf [0, 0, 0, 0, 0, 0, 0, 0, 0, 0, 0, 0, 0, 0, 0, 0, 0, n]), .int .i64 (p : Int)] w fun e w' => e = .returned (.bool (bitB n p)) ∧ Grow w w' := by
  have h : n = 0 ∨ n = 1 ∨ n = 2 ∨ n = 3 := by omega
  have h2 : p = 0 ∨ p = 1 := by omega
  rcases h2 with rfl | rfl <;> rcases h with rfl | rfl | rfl | rfl
  all_goals
    go_enter Tryz.func262, Tryz.ntmps262
    go_wp2_with fail
    go_ret
    exact ⟨by rfl, grI⟩
set_option maxRecDepth 100000 in
set_option maxHeartbeats 2000000 in
theorem bit15_any (n : Int) (h0 : 0 ≤ n) (h3 : n ≤ 3) (p : Nat) (hp : p < 2) (w : World) :
    Calls Tryz.prog 249 #[.int .i64 n, .int .i64 (p : Int)] w fun e w' => e = .returned (.bool (bitB n p)) ∧ Grow w w' := by
  have HK := Lib.hid (fun W => knows15_any n h0 h3 p hp W)
  have hs : [0, 0, 0, 0, 0, 0, 0, 0, 0, 0, 0, 0, 0, 0, 0, 0, 0, 0].set 17 n = [0, 0, 0, 0, 0, 0, 0, 0, 0, 0, 0, 0, 0, 0, 0, 0, 0, n] := rfl
  generalize bitB n p = r at *
  clear h0 h3 hp
  go_enter Tryz.func249, Tryz.ntmps249
  go_wp2_with (go_at_call 262; refine (HK.out _).mono ?_; rintro e' w' ⟨rfl, nx, rfl⟩)
  go_ret
  exact ⟨rfl, grI⟩
/-- Who knows, as far as is looked at. -/
def nowTo (was pl : Int) : Nat → Int
  | 0 => was
  | k + 1 => if bitB pl k = true ∧ bitB (nowTo was pl k) k = false then nowTo was pl k + (k + 1) else nowTo was pl k
theorem nowTo_in (was pl : Int) (h0 : 0 ≤ was) (h3 : was ≤ 3) (p0 : 0 ≤ pl) (p3 : pl ≤ 3) : ∀ k : Nat, k ≤ 2 → 0 ≤ nowTo was pl k ∧ nowTo was pl k ≤ 3 := by
  have h : was = 0 ∨ was = 1 ∨ was = 2 ∨ was = 3 := by omega
  have h2 : pl = 0 ∨ pl = 1 ∨ pl = 2 ∨ pl = 3 := by omega
  intro k hk
  have h4 : k = 0 ∨ k = 1 ∨ k = 2 := by omega
  rcases h with rfl | rfl | rfl | rfl <;> rcases h2 with rfl | rfl | rfl | rfl <;> rcases h4 with rfl | rfl | rfl <;> decide
theorem nowTo_show (was pl : Int) (h0 : 0 ≤ was) (h3 : was ≤ 3) (p0 : 0 ≤ pl) (p3 : pl ≤ 3) : nowTo was pl 2 = showN was pl := by
  have h : was = 0 ∨ was = 1 ∨ was = 2 ∨ was = 3 := by omega
  have h2 : pl = 0 ∨ pl = 1 ∨ pl = 2 ∨ pl = 3 := by omega
  rcases h with rfl | rfl | rfl | rfl <;> rcases h2 with rfl | rfl | rfl | rfl <;> decide
end Go.Proofs.YtnjclibennadcaaGreatDoor
namespace Go.Proofs.YtnjclibennadcaaGreatDoor
open Go Go.RowKit Go.Shelf

@[go_sem] theorem run_build_gKnow (w : World) (a u v : Int) : (bdRow 136 #[(0, .int .i64 2), (1, .int .i64 a), (2, .int .i64 17), (3, .int .i64 u), (4, .int .i64 v)]).run Tryz.prog w = .ok (.value (.agg (cellsOf [2, a, 17, u, v, 0]))) w := by kernel_rfl
set_option maxRecDepth 100000 in
set_option maxHeartbeats 4000000 in
theorem change15_any (S : St) (V : SV) (w : World) (R : RepSt w V S) (a : Nat) (ha : a < S.objs.length) (h0 : 0 ≤ gt (rowAt S.objs a) 17) (h3 : gt (rowAt S.objs a) 17 ≤ 3) (pl : Int) (p0 : 0 ≤ pl) (p3 : pl ≤ 3) :
    Calls Tryz.prog 223 #[.agg (stA V S.num), .int .i64 (a : Int), .int .i64 pl, .bool true] w fun e w' => ∃ s : Sl, e = .returned s.val ∧ Rows' w' s 6 (showEv S a pl) ∧ (∀ b, s.owns b → w.heap.size ≤ b ∧ b < w'.heap.size) ∧ Grow w w' := by
  have hoc := R.objs.cell a 17 ha (by omega)
  have hN := R.objs.len
  have hob := (cell_blk hoc).1
  have ha1 : (a : Int) < (S.objs.length : Int) := by omega
  have ha0 : (0 : Int) ≤ (a : Int) := by omega
  have ha2 : (S.objs.length ≤ a) = False := by simp; omega
  have ha3 : ((S.objs.length : Int) ≤ (a : Int)) = False := by simp; omega
  have hSE : Hid (showEv S a pl = if showN (gt (rowAt S.objs a) 17) pl = gt (rowAt S.objs a) 17 then [] else [[2, (a : Int), 17, gt (rowAt S.objs a) 17, showN (gt (rowAt S.objs a) 17) pl, 0]]) := by
    rw [Hid]; unfold showEv
    rw [if_neg (by omega), Int.toNat_natCast]
  generalize gt (rowAt S.objs a) 17 = was at *
  have HIn := Lib.hid (nowTo_in was pl h0 h3 p0 p3)
  have HB2 := Lib.hid (fun W n (n0 : 0 ≤ n) (n3 : n ≤ 3) (k : Nat) (hk : k < 2) => bit15_any n n0 n3 k hk W)
  have hsh := nowTo_show was pl h0 h3 p0 p3
  rw [← hsh] at hSE
  clear h0 h3 hsh R
  go_enter Tryz.func223, Tryz.ntmps223
  go_wp2_with fail
  go_loopw [10, 11] (fun v i wr => ∃ k : Nat, k ≤ 2 ∧ v = I (nowTo was pl k) ∧ i = .int .i64 k ∧ Grow (w.alloc (.cells (stA V S.num) 29)) wr) (fun _ i _ => 2 - (intOf i).toNat)
  case atStart => exact ⟨0, by omega, rfl, rfl, grI⟩
  case round =>
    obtain ⟨k, hk, rfl, rfl, hG⟩ := hrel
    obtain ⟨x, rfl⟩ := hG
    by_cases hlt : k < 2
    · have hk2 : (k : Int) < 2 := by omega
      have hN2 : Hid (nowTo was pl (k + 1) = if bitB pl k = true ∧ bitB (nowTo was pl k) k = false then nowTo was pl k + (k + 1) else nowTo was pl k) := rfl
      obtain ⟨n0, n3⟩ := HIn.out k (by omega)
      have HBk := Lib.hid (fun W n (n0 : 0 ≤ n) (n3 : n ≤ 3) => HB2.out W n n0 n3 k hlt)
      have hw1 : IntKind.i64.wrap ((k : Int) + 1) = (k : Int) + 1 := IntWalk.i64_in _ (by omega)
      have hw2 : IntKind.i64.wrap (nowTo was pl k + ((k : Int) + 1)) = nowTo was pl k + ((k : Int) + 1) := IntWalk.i64_in _ (by omega)
      generalize nowTo was pl k = now at *
      cases hb1 : bitB pl k with
      | false =>
        rw [hb1] at hN2
        have hN3 : Hid (nowTo was pl (k + 1) = now) := by rw [Hid, hN2.out]; simp
        clear hN2 HB2
        go_wp2_with (go_at_call 249; refine (HBk.out _ _ (by assumption) (by assumption)).mono ?_; rintro e' w' ⟨rfl, nx, rfl⟩)
        go_roundw
        case rel => exact ⟨k + 1, by omega, by rw [hN3.out], by go_num, grI⟩
        case measure => simp [intOf]; omega
      | true =>
        rw [hb1] at hN2
        cases hb2 : bitB now k with
        | true =>
          rw [hb2] at hN2
          have hN3 : Hid (nowTo was pl (k + 1) = now) := by rw [Hid, hN2.out]; simp
          clear hN2 HB2
          go_wp2_with (go_at_call 249; refine (HBk.out _ _ (by assumption) (by assumption)).mono ?_; rintro e' w' ⟨rfl, nx, rfl⟩)
          go_roundw
          case rel => exact ⟨k + 1, by omega, by rw [hN3.out], by go_num, grI⟩
          case measure => simp [intOf]; omega
        | false =>
          rw [hb2] at hN2
          have hN3 : Hid (nowTo was pl (k + 1) = now + ((k : Int) + 1)) := by rw [Hid, hN2.out]; simp
          clear hN2 HB2
          go_wp2_with (go_at_call 249; refine (HBk.out _ _ (by assumption) (by assumption)).mono ?_; rintro e' w' ⟨rfl, nx, rfl⟩)
          go_roundw
          case rel => exact ⟨k + 1, by omega, by rw [hN3.out], by go_num, grI⟩
          case measure => simp [intOf]; omega
    · obtain rfl : k = 2 := by omega
      generalize nowTo was pl 2 = now at *
      by_cases hx : now = was
      · have hxb : (now == was) = true := by simpa using hx
        rw [if_pos hx] at hSE
        clear hx
        go_wp2_with fail
        go_ret
        exact ⟨.nil, rfl, by rw [hSE.out]; exact Rows'.nil _ _, fun b hb => hb.elim, grI⟩
      · have hxb : (now == was) = false := by simpa using hx
        rw [if_neg hx] at hSE
        clear hx
        go_wp2_with fail
        go_ret
        refine ⟨.mk (w.heap.size + 1 + x.objs.size) 0 1 1, rfl, ?_, fun b hb => ?_, grI⟩
        · rw [hSE.out]
          exact (one_row _ _ 6 _ rfl (by go_simp)).rows (by omega) (wid_of (fun r hr => by rw [List.mem_singleton] at hr; subst hr; rfl))
        · have hb : b = w.heap.size + 1 + x.objs.size := hb
          subst hb
          simp only [plus_size, alloc_size']
          exact ⟨by omega, by omega⟩
end Go.Proofs.YtnjclibennadcaaGreatDoor
namespace Go.Proofs.YtnjclibennadcaaGreatDoor
open Go Go.RowKit Go.Shelf

theorem dos_take (E : Em) (l : List (List Int)) (k : Nat) (h : k < l.length) : E.dos (l.take (k + 1)) = (E.dos (l.take k)).do1 (rowAt l k) := by
  have : l.take (k + 1) = l.take k ++ [rowAt l k] := by
    rw [List.take_succ_eq_append_getElem h]
    simp [rowAt, h]
  unfold Em.dos
  rw [this, List.foldl_append]; rfl
theorem showEv_kind (S : St) (id p : Int) : ∀ i, i < (showEv S id p).length → gt (rowAt (showEv S id p) i) 0 = 2 := by
  intro i hi
  unfold showEv at hi ⊢
  split at hi
  · simp at hi
  · split at hi
    · simp at hi
    · rename_i h1 h2
      rw [if_neg h1, if_neg h2]
      have : i = 0 := by simpa using hi
      subst this
      rfl
set_option maxRecDepth 100000 in
set_option maxHeartbeats 4000000 in
theorem gshow_any (w : World) (b : Nat) (own : Nat → Prop) (E : Em) (R : Gmt w b own E) (hS : Small E.now) (he : E.err = 0) (hev : E.evs.length < 65536) (a : Nat) (ha : a < E.now.objs.length) (h0 : 0 ≤ gt (rowAt E.now.objs a) 17) (h3 : gt (rowAt E.now.objs a) 17 ≤ 3) (pl : Int) (p0 : 0 ≤ pl) (p3 : pl ≤ 3) :
    Calls Tryz.prog 189 #[.pointer (some ⟨b, 0, none⟩), .int .i64 (a : Int), .int .i64 pl] w fun r w' => r = .returned (.tuple #[]) ∧ DPost w b own (E.show a pl) w' := by
  have HR0 := Lib.hid R
  have hlt0 := R.lt
  have hone := showEv_one E.now a pl
  have HKi := Lib.hid (showEv_kind E.now a pl)
  have HTk := Lib.hid (dos_take E (showEv E.now a pl))
  have hsh : E.show a pl = E.dos ((showEv E.now a pl).take (showEv E.now a pl).length) := by unfold Em.show; rw [if_neg (by rw [he]; simp), List.take_length]
  obtain ⟨V, sd, se, sp, hr, ho⟩ := R
  have HCh := Lib.hid (fun W (g : Grow w W) => change15_any E.now V W (hr.host.rep.grow g) a ha h0 h3 pl p0 p3)
  have hH := hr.host
  have hcell := cell_of_blk (hH).free (hH).blk; have hfz := frozen_of_free (hH).free; have hset := setCell_of_blk (hH).free (hH).blk; have hblk := (hH).blk; have hfree := (hH).free; have hlt := (hH).lt; have hne1 : ¬ b = (w).heap.size := (by omega); have hne2 : ¬ (w).heap.size = b := (by omega)
  have HL := Lib.hid hlt0
  have HS := Lib.hid hS
  rw [hsh]
  clear hr ho hH hsh hlt0 ha h0 h3 p0 p3 hS
  generalize showEv E.now a pl = l at *
  go_enter Tryz.func189, Tryz.ntmps189
  go_wp2_with (go_at_call 223; refine (HCh.out _ grI).mono ?_; rintro e' w' ⟨s, rfl, hRl, hos, nx, rfl⟩; (try simp only [drew_plus] at hRl); (try simp only [plus_plus] at hRl); have HRl := Lib.hid hRl; have HOS := Lib.hid (fun k hk => (hos k hk).1); have hsn := hRl.len; clear hRl hos)
  have hG : Grow w (w.plus nx) := grI
  have hRl := HRl.out
  have hos : ∀ k, s.owns k → ¬ own k := fun k hk hk2 => by
    have h1 := HOS.out k hk
    have h2 := HL.out k hk2
    (try simp only [plus_size] at h1); omega
  have hem : Gmt (w.plus nx) b own E := HR0.out.grow hG
  clear HRl HOS hfree hfz hset hcell hblk
  generalize w.plus nx = W1 at *
  have HRl := Lib.hid hRl
  have HOS := Lib.hid hos
  have HEM := Lib.hid hem
  have HG := Lib.hid hG
  clear hRl hos hem hG
  go_loopw [16] (fun i wr => ∃ (k : Nat) (ownk : Nat → Prop), k ≤ l.length ∧ i = .int .i64 k ∧ TurnG W1 b own (E.dos (l.take k)) wr ownk) (fun i _ => l.length - (intOf i).toNat)
  case atStart => exact ⟨0, own, by omega, rfl, TurnG.first HEM.out⟩
  case round =>
    obtain ⟨k, ownk, hk, rfl, hTu⟩ := hrel
    have HTu := Lib.hid hTu
    by_cases hlt : k < l.length
    · obtain ⟨qb, qw, qsz, qsub, _⟩ := (HRl.out.kept hTu.kept (fun hl => HOS.out _ (owns_ofR HRl.out hl))).at (by omega) k hlt
      obtain rfl : k = 0 := by omega
      simp only [Nat.zero_mul, Nat.add_zero] at qsz qsub
      have hkd := HKi.out 0 hlt
      have HSU := Lib.hid (HTk.out 0 hlt)
      generalize rowAt l 0 = row at *
      have HD := Lib.hid (fun W (g : Grow wr W) => gdo_any W b ownk E (hTu.em.grow g) HS.out (fun _ => hev) row qw (by rw [hkd]; decide) (by rw [hkd]; decide))
      clear hTu hkd
      go_wp2_with (go_at_call 126; refine (HD.out _ grI).mono ?_; rintro e' w2 ⟨rfl, hE⟩; obtain ⟨own3, T3⟩ := HTu.out.step grI hE; have HT3 := Lib.hid T3; clear hE T3)
      go_roundw
      case rel => exact ⟨1, own3, by omega, by go_num, by rw [HSU.out]; exact HT3.out⟩
      case measure => simp [intOf]; omega
    · have hkl : k = l.length := by omega
      subst hkl
      clear hTu
      go_wp2_with fail
      go_end0
      exact ⟨rfl, HTu.out.post HG.out⟩
set_option maxRecDepth 100000 in
set_option maxHeartbeats 4000000 in
theorem ghome_any (o : List Int) (ho : o.length = 18) (p0 : 0 ≤ gt o 1) (p1 : gt o 1 ≤ 1) (k0 : 0 ≤ gt o 13) (k2 : gt o 13 ≤ 2) (base : Int) (hb : basesB base = true) (w : World) :
    Calls Tryz.prog 187 #[.agg (cellsOf o), .int .i64 base] w fun e w' => e = .returned (.int .i64 (homeN o base)) ∧ Grow w w' := by
  have hh : Hid (∀ p k : Int, gt o 1 = p → gt o 13 = k → homeN o base = (let zone := if 0 ≤ zoneN base p then zoneN base p else base; if (k = 1 ∧ zone < 8) ∨ (k = 2 ∧ zone ≠ 9) then 10 else zone)) := fun p k hp hk => by subst hp; subst hk; rfl
  have c1 : gt o 1 = 0 ∨ gt o 1 = 1 := by omega
  have c2 : gt o 13 = 0 ∨ gt o 13 = 1 ∨ gt o 13 = 2 := by omega
  rcases bases_is hb with rfl | rfl | rfl | rfl | rfl | rfl | rfl <;> rcases c1 with c1 | c1 <;> rcases c2 with c2 | c2 | c2
  all_goals
    rw [hh.out _ _ c1 c2]
    clear hh p0 p1 k0 k2 hb
    go_enter Tryz.func187, Tryz.ntmps187
    go_wp2_with fail
    go_ret
    exact ⟨by rfl, grI⟩
end Go.Proofs.YtnjclibennadcaaGreatDoor
