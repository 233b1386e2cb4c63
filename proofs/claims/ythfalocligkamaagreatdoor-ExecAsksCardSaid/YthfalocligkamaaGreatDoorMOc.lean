/- An emitter that has an error, or a right state, behind each call, however many events there are. -/
import Derived.Test.YthfalocligkamaaGreatDoorMRtA
import Derived.Test.YthfalocligkamaaGreatDoorMChk
import Derived.Test.YthfalocligkamaaGreatDoorMEmNew
import Derived.Test.YthfalocligkamaaGreatDoorMEm9
namespace Go.Proofs.YthfalocligkamaaGreatDoor
open Go Go.RowKit Go.Shelf
structure Rg (m : Nat) (d : List Int) (E : Em) : Prop where
 err : E.err = 0
 right : Right E.now
 wid : zgh E.now
 evs : E.evs.length ≤ 65536
 pend : E.pend.length ≤ m
 draws : E.draws = d
def Og (m : Nat) (d : List Int) (E : Em) : Prop := E.err ≠ 0 ∨ Rg m d E
theorem Rg.mono {m m' : Nat} {d : List Int} {E : Em} (h : Rg m d E) (hm : m ≤ m') : Rg m' d E := ⟨h.err, h.right, h.wid, h.evs, Nat.le_trans h.pend hm, h.draws⟩
theorem Og.mono {m m' : Nat} {d : List Int} {E : Em} (h : Og m d E) (hm : m ≤ m') : Og m' d E := h.imp id (fun h => h.mono hm)
structure Sim (n : Nat) (E F : Em) : Prop where
 evs : E.evs.length ≤ 65536
 or : E.err ≠ 0 ∨ (E.err = F.err ∧ E.now = F.now ∧ E.pend = F.pend ∧ E.draws = F.draws ∧ F.evs.length ≤ n)
theorem Sim.mono {n m : Nat} {E F : Em} (h : Sim n E F) (hm : n ≤ m) : Sim m E F := ⟨h.evs, h.or.imp id (fun h => ⟨h.1, h.2.1, h.2.2.1, h.2.2.2.1, Nat.le_trans h.2.2.2.2 hm⟩)⟩
def Em.bare (E : Em) : Em := { E with evs := [] }
theorem Rg.sim {m : Nat} {d : List Int} {E : Em} (h : Rg m d E) : Sim 0 E E.bare := ⟨h.evs, Or.inr ⟨rfl, rfl, rfl, rfl, Nat.le_refl _⟩⟩
theorem Rg.gd {m : Nat} {d : List Int} {E : Em} (h : Rg m d E) : Gd 0 0 m d E.bare := ⟨h.err, h.right, h.wid, Nat.le_refl _, h.pend, h.draws, Nat.zero_le _⟩
theorem Og.of {n n' m L : Nat} {d : List Int} {E F : Em} (h : Sim n E F) (g : Out L n' m d F) : Og m d E := by
 rcases h.or with h1 | ⟨h1, h2, h3, h4, _⟩
 · exact Or.inl h1
 · rcases g with g | g
   · exact Or.inl (by rw [h1]; exact g)
   · exact Or.inr ⟨h1.trans g.err, by rw [h2]; exact g.right, by rw [h2]; exact g.wid, h.evs, by rw [h3]; exact g.pend, h4.trans g.draws⟩
theorem Sim.bad {n : Nat} {E F : Em} (h : Sim n E F) (he : E.err ≠ 0) (m : Nat) (F' : Em) : Sim m E F' := ⟨h.evs, Or.inl he⟩
theorem Sim.do1 {n : Nat} {E F : Em} (h : Sim n E F) (hn : n < 65536) (e : List Int) : Sim (n + 1) (E.do1 e) (F.do1 e) := by
 rcases h.or with h1 | ⟨h1, h2, h3, h4, h5⟩
 · unfold Em.do1
   rw [if_pos h1]
   exact h.bad h1 _ _
 · by_cases he : E.err = 0
   · unfold Em.do1
     rw [if_neg (by rw [he]; simp), if_neg (by rw [← h1, he]; simp), h2]
     cases hd : zen F.now e with
     | error k => exact ⟨h.evs, Or.inl (zfx hd)⟩
     | ok S =>
       show Sim (n + 1) (if E.evs.length < 65536 then _ else _) (if F.evs.length < 65536 then _ else _)
       rw [if_pos (show F.evs.length < 65536 by omega)]
       split
       · rename_i hl
         exact ⟨by rw [List.length_append]; show E.evs.length + 1 ≤ _; omega, Or.inr ⟨h1, rfl, h3, h4, by rw [List.length_append]; show F.evs.length + 1 ≤ _; omega⟩⟩
       · exact ⟨h.evs, Or.inl (by show (5 : Int) ≠ 0; decide)⟩
   · have e2 : E.do1 e = E := by unfold Em.do1; rw [if_pos he]
     rw [e2]
     exact h.bad he _ _
theorem Sim.fail {n : Nat} {E F : Em} (h : Sim n E F) (k : Int) : Sim n (E.fail k) (F.fail k) := by
 rcases h.or with h1 | ⟨h1, h2, h3, h4, h5⟩
 · unfold Em.fail
   rw [if_neg h1]
   exact h.bad h1 _ _
 · unfold Em.fail
   rw [h1]
   split
   · exact ⟨h.evs, Or.inr ⟨rfl, h2, h3, h4, h5⟩⟩
   · exact ⟨h.evs, Or.inr ⟨h1, h2, h3, h4, h5⟩⟩
theorem Sim.set {n : Nat} {E F : Em} (h : Sim n E F) (hn : n < 65536) (e : List Int) (u v : Int) : Sim (n + 1) (E.set e u v) (F.set e u v) := by
 unfold Em.set
 split
 · exact (h.fail _).mono (by omega)
 · exact h.do1 hn _
theorem Sim.step {n k : Nat} {E F : Em} (h : Sim n E F) {f : Em → Em} (hbad : E.err ≠ 0 → f E = E) (hf : E.err = 0 → F.err = 0 → E.now = F.now → Sim (n + k) (f E) (f F)) : Sim (n + k) (f E) (f F) := by
 rcases h.or with h1 | ⟨h1, h2, _, _, _⟩
 · rw [hbad h1]; exact h.bad h1 _ _
 · by_cases he : E.err = 0
   · exact hf he (by rw [← h1]; exact he) h2
   · rw [hbad he]; exact h.bad he _ _
theorem zf4 {E : Em} (h : E.err ≠ 0) (a f v : Int) : E.setObj a f v = E := by unfold Em.setObj; rw [if_pos h]
theorem zn5 {E : Em} (h : E.err ≠ 0) (a f v : Int) : E.setPl a f v = E := by unfold Em.setPl; rw [if_pos h]
theorem zgm {E : Em} (h : E.err ≠ 0) (f v : Int) : E.setGame f v = E := by unfold Em.setGame; rw [if_pos h]
theorem zmi {E : Em} (h : E.err ≠ 0) (a p : Int) : E.show a p = E := by unfold Em.show; rw [if_pos h]
theorem zpn {E : Em} (h : E.err ≠ 0) (a p : Int) : E.put a p = E := by unfold Em.put; rw [if_pos h]
theorem zl0 {E : Em} (h : E.err ≠ 0) (a b c : Int) : E.make a b c = E := by unfold Em.make; rw [if_pos h]
theorem zll {E : Em} (h : E.err ≠ 0) (p : Int) : E.draw p = E := by unfold Em.draw; rw [if_pos h]
theorem Sim.setObj {n : Nat} {E F : Em} (h : Sim n E F) (hn : n < 65536) (a f v : Int) : Sim (n + 1) (E.setObj a f v) (F.setObj a f v) := by
 refine h.step (f := fun E => E.setObj a f v) (fun h => zf4 h _ _ _) (fun e1 e2 e3 => ?_)
 unfold Em.setObj
 rw [if_neg (show ¬ E.err ≠ 0 by rw [e1]; simp), if_neg (show ¬ F.err ≠ 0 by rw [e2]; simp), e3]
 split
 · exact h.do1 hn _
 · exact h.set hn _ _ _
theorem Sim.setPl {n : Nat} {E F : Em} (h : Sim n E F) (hn : n < 65536) (a f v : Int) : Sim (n + 1) (E.setPl a f v) (F.setPl a f v) := by
 refine h.step (f := fun E => E.setPl a f v) (fun h => zn5 h _ _ _) (fun e1 e2 e3 => ?_)
 unfold Em.setPl
 rw [if_neg (show ¬ E.err ≠ 0 by rw [e1]; simp), if_neg (show ¬ F.err ≠ 0 by rw [e2]; simp), e3]
 split
 · exact h.do1 hn _
 · exact h.set hn _ _ _
theorem Sim.setGame {n : Nat} {E F : Em} (h : Sim n E F) (hn : n < 65536) (f v : Int) : Sim (n + 1) (E.setGame f v) (F.setGame f v) := by
 refine h.step (f := fun E => E.setGame f v) (fun h => zgm h _ _) (fun e1 e2 e3 => ?_)
 unfold Em.setGame
 rw [if_neg (show ¬ E.err ≠ 0 by rw [e1]; simp), if_neg (show ¬ F.err ≠ 0 by rw [e2]; simp), e3]
 split
 · exact h.do1 hn _
 · exact h.set hn _ _ _
theorem Sim.dos (l : List (List Int)) : ∀ {n : Nat} {E F : Em}, Sim n E F → n + l.length ≤ 65536 → Sim (n + l.length) (E.dos l) (F.dos l) := by
 induction l with
 | nil => intro n E F h _; exact h
 | cons e l ih =>
   intro n E F h hn
   rw [List.length_cons] at hn ⊢
   have h2 := ih (h.do1 (by omega) e) (by omega)
   rw [show n + (l.length + 1) = n + 1 + l.length by omega]
   exact h2
theorem Sim.show {n : Nat} {E F : Em} (h : Sim n E F) (hn : n < 65536) (a p : Int) : Sim (n + 1) (E.show a p) (F.show a p) := by
 refine h.step (f := fun E => E.show a p) (fun h => zmi h _ _) (fun e1 e2 e3 => ?_)
 unfold Em.show
 rw [if_neg (show ¬ E.err ≠ 0 by rw [e1]; simp), if_neg (show ¬ F.err ≠ 0 by rw [e2]; simp), e3]
 have hl := zh3 F.now a p
 exact (Sim.dos _ h (by omega)).mono (by omega)
theorem Sim.make {n : Nat} {E F : Em} (h : Sim n E F) (hn : n < 65536) (a b c : Int) : Sim (n + 1) (E.make a b c) (F.make a b c) := by
 refine h.step (f := fun E => E.make a b c) (fun h => zl0 h _ _ _) (fun e1 e2 e3 => ?_)
 unfold Em.make
 rw [if_neg (show ¬ E.err ≠ 0 by rw [e1]; simp), if_neg (show ¬ F.err ≠ 0 by rw [e2]; simp)]
 exact h.do1 hn _
theorem Sim.rest {n : Nat} {E F : Em} (h : Sim n E F) (hn : n + 9 ≤ 65536) (a : Int) : Sim (n + 9) (E.rest a) (F.rest a) := by
 have key : ∀ (l : List Int) (n : Nat) (E F : Em), Sim n E F → n + l.length ≤ 65536 → Sim (n + l.length) (l.foldl (fun E f => E.setObj a f 0) E) (l.foldl (fun E f => E.setObj a f 0) F) := by
  intro l
  induction l with
  | nil => intro n E F h _; exact h
  | cons x l ih =>
    intro n E F h hn
    have := ih (n + 1) _ _ (h.setObj (by simp at hn; omega) a x 0) (by simp at hn; omega)
    exact this.mono (by simp; omega)
 exact key restL n E F h hn
theorem Sim.await {n : Nat} {E F : Em} (h : Sim n E F) (a wh ctl : Int) : Sim n (E.await a wh ctl) (F.await a wh ctl) := by
 rcases h.or with h1 | ⟨h1, h2, h3, h4, h5⟩
 · unfold Em.await
   split
   · exact ⟨h.evs, Or.inl h1⟩
   · have e : E.fail 4 = E := by unfold Em.fail; rw [if_neg h1]
     rw [e]; exact h.bad h1 _ _
 · unfold Em.await
   rw [h2]
   split
   · exact ⟨h.evs, Or.inr ⟨h1, rfl, by show E.pend ++ _ = F.pend ++ _; rw [h3], h4, h5⟩⟩
   · exact h.fail _
theorem Sim.iff' {n : Nat} {E F : Em} {p : Prop} [Decidable p] {f : Em → Em} {k : Nat} (h : Sim n E F) (hf : Sim (n + k) (f E) (f F)) : Sim (n + k) (if p then f E else E) (if p then f F else F) := by
 split
 · exact hf
 · exact h.mono (by omega)
theorem Sim.put2 {n : Nat} {E F : Em} (h : Sim n E F) (hn : n + 13 ≤ 65536) (id fr dz own : Int) : Sim (n + 13) (E.put2 id fr dz own) (F.put2 id fr dz own) := by
 unfold Em.put2
 have h2 : Sim (n + 9) (if dz ≠ 8 then E.rest id else E) (if dz ≠ 8 then F.rest id else F) := h.iff' (f := fun E => E.rest id) (h.rest (by omega) id)
 have h3 := h2.iff' (p := dz < 8) (f := fun E => E.setObj id 2 own) (h2.setObj (by omega) id 2 own)
 have h4 := h3.iff' (p := dz ≠ 9) (f := fun E => E.setObj id 16 0) (h3.setObj (by omega) id 16 0)
 have h5 := h4.iff' (p := dz = 8 ∧ fr ≠ dz) (f := fun E => E.setObj id 5 1) (h4.setObj (by omega) id 5 1)
 exact h5.show (by omega) id (zbx dz)
theorem z2y {E : Em} (h : E.err ≠ 0) (a b c d e : Int) : E.put3 a b c d e = E := by unfold Em.put3; rw [if_pos h]
theorem Sim.put3 {n : Nat} {E F : Em} (h : Sim n E F) (id fr dz base ctl : Int) : Sim n (E.put3 id fr dz base ctl) (F.put3 id fr dz base ctl) := by
 refine (h.step (k := 0) (f := fun E => E.put3 id fr dz base ctl) (fun h => z2y h _ _ _ _ _) (fun e1 e2 e3 => ?_))
 unfold Em.put3
 rw [if_neg (show ¬ E.err ≠ 0 by rw [e1]; simp), if_neg (show ¬ F.err ≠ 0 by rw [e2]; simp), e3]
 split
 · exact h.await _ _ _
 split
 · exact h.await _ _ _
 · exact h
theorem Sim.put {n : Nat} {E F : Em} (h : Sim n E F) (hn : n + 14 ≤ 65536) (id base : Int) : Sim (n + 14) (E.put id base) (F.put id base) := by
 refine h.step (f := fun E => E.put id base) (fun h => zpn h _ _) (fun e1 e2 e3 => ?_)
 unfold Em.put
 rw [if_neg (show ¬ E.err ≠ 0 by rw [e1]; simp), if_neg (show ¬ F.err ≠ 0 by rw [e2]; simp), e3]
 split
 · exact ⟨h.evs, Or.inl (show (4 : Int) ≠ 0 by decide)⟩
 split
 · exact ⟨h.evs, Or.inl (show (12 : Int) ≠ 0 by decide)⟩
 · have h1 := h.do1 (by omega) (F.now.putEv id (zfk (rowAt F.now.objs id.toNat) base))
   exact ((h1.put2 (by omega) _ _ _ _).put3 _ _ _ _ _).mono (by omega)
theorem Sim.draw {n : Nat} {E F : Em} (h : Sim n E F) (hn : n + 14 ≤ 65536) (p : Int) : Sim (n + 14) (E.draw p) (F.draw p) := by
 refine h.step (f := fun E => E.draw p) (fun h => zll h _) (fun e1 e2 e3 => ?_)
 unfold Em.draw
 rw [if_neg (show ¬ E.err ≠ 0 by rw [e1]; simp), if_neg (show ¬ F.err ≠ 0 by rw [e2]; simp), e3]
 split
 · exact ⟨h.evs, Or.inl (show (1 : Int) ≠ 0 by decide)⟩
 split
 · exact (h.setPl (by omega) _ _ _).mono (by omega)
 · exact h.put hn _ _
theorem Sim.puts (l : List Int) : ∀ {n : Nat} {E F : Em}, Sim n E F → n + 14 * l.length ≤ 65536 → Sim (n + 14 * l.length) (E.puts l) (F.puts l) := by
 induction l with
 | nil => intro n E F h _; exact h
 | cons x l ih =>
   intro n E F h hn
   rw [List.length_cons] at hn ⊢
   have h2 := ih (h.put (by omega) x 4) (by omega)
   rw [show n + 14 * (l.length + 1) = n + 14 + 14 * l.length by omega]
   exact h2
theorem Rg.setPl {m : Nat} {d : List Int} {E : Em} (h : Rg m d E) (p f : Nat) (hp : p < 2) (hf : f < 9) (v : Int) (hv : inB v (gt plBounds (f * 2)) (gt plBounds (f * 2 + 1)) = true) : Og m d (E.setPl p f v) :=
 Og.of (h.sim.setPl (by omega) p f v) (h.gd.setPl p f hp hf v hv)
theorem Rg.setGm {m : Nat} {d : List Int} {E : Em} (h : Rg m d E) (f : Nat) (hf : f < 7) (v : Int) (hv : inB v (gt gmBounds (f * 2)) (gt gmBounds (f * 2 + 1)) = true) : Og m d (E.setGame f v) :=
 Og.of (h.sim.setGame (by omega) f v) (h.gd.setGm f hf v hv)
theorem Rg.put {m : Nat} {d : List Int} {E : Em} (h : Rg m d E) (id base : Int) : Og (m + 2) d (E.put id base) :=
 Og.of (h.sim.put (by omega) id base) (h.gd.put (by omega) id base)
theorem Rg.make {m : Nat} {d : List Int} {E : Em} (h : Rg m d E) (c o k : Int) : Og m d (E.make c o k) :=
 Og.of (h.sim.make (by omega) c o k) (h.gd.make c o k)
theorem Rg.draw {m : Nat} {d : List Int} {E : Em} (h : Rg m d E) (p : Int) : Og (m + 2) d (E.draw p) :=
 Og.of (h.sim.draw (by omega) p) (h.gd.draw (by omega) p)
theorem Og.put {m : Nat} {d : List Int} {E : Em} (h : Og m d E) (id base : Int) : Og (m + 2) d (E.put id base) := by
 rcases h with h | h
 · rw [zpn h]; exact Or.inl h
 · exact h.put _ _
theorem Og.make {m : Nat} {d : List Int} {E : Em} (h : Og m d E) (c o k : Int) : Og m d (E.make c o k) := by
 rcases h with h | h
 · rw [zl0 h]; exact Or.inl h
 · exact h.make _ _ _
theorem Og.draw {m : Nat} {d : List Int} {E : Em} (h : Og m d E) (p : Int) : Og (m + 2) d (E.draw p) := by
 rcases h with h | h
 · rw [zll h]; exact Or.inl h
 · exact h.draw _
theorem Og.setPl {m : Nat} {d : List Int} {E : Em} (h : Og m d E) (p f : Nat) (hp : p < 2) (hf : f < 9) (v : Int) (hv : inB v (gt plBounds (f * 2)) (gt plBounds (f * 2 + 1)) = true) : Og m d (E.setPl p f v) := by
 rcases h with h | h
 · rw [zn5 h]; exact Or.inl h
 · exact h.setPl p f hp hf v hv
theorem Og.setGm {m : Nat} {d : List Int} {E : Em} (h : Og m d E) (f : Nat) (hf : f < 7) (v : Int) (hv : inB v (gt gmBounds (f * 2)) (gt gmBounds (f * 2 + 1)) = true) : Og m d (E.setGame f v) := by
 rcases h with h | h
 · rw [zgm h]; exact Or.inl h
 · exact h.setGm f hf v hv
theorem Og.err {m : Nat} {d : List Int} {E : Em} (h : Og m d E) (he : E.err = 0) : Rg m d E := h.resolve_left (fun h => h he)
theorem Right.setObj {S : St} (h : Right S) (hw : zgh S) (a f : Nat) (v : Int) (ha : a < S.objs.length) (h1 : f ≠ 1) (h3 : f ≠ 3) (h13 : f ≠ 13) (hv : inB v (gt (zal S.objs.length) (f * 2)) (gt (zal S.objs.length) (f * 2 + 1)) = true) (hf : f < 18)
 (hfm : zbf ((rowAt S.objs a).set f v) = true) : Right (S.setObj a f v) := by
 have hl := zc6 S a f v
 have hr := fun i => zf5 S a f i v ha
 have hg : ∀ i g, g ≠ f → gt (rowAt (S.setObj a f v).objs i) g = gt (rowAt S.objs i) g := fun i g hne => by
  rw [hr]; split
  · rename_i e; subst e
    rw [zeh _ _ _ _ (by rw [hw a ha]; omega), if_neg (Ne.symm hne)]
  · rfl
 refine ⟨by rw [hl]; exact h.many, (za2 _).2 ⟨fun i hi => ?_, ((za2 S).1 h.ranges).2.1, ((za2 S).1 h.ranges).2.2⟩, ⟨fun z hz x hx => ?_, fun id hid => h.zon.once id (by rw [hl] at hid; exact hid)⟩, fun i hi => ?_⟩
 · rw [hl] at hi ⊢
   rw [hr]; split
   · exact zl2 _ _ _ _ _ (h.row ha) (by rw [hw a ha]; omega) hv
   · exact h.row hi
 · obtain ⟨p, q, r, s⟩ := h.zon.ok z hz x hx
   refine ⟨p, by rw [hl]; exact q, by rw [hg _ _ (Ne.symm h3)]; exact r, ?_⟩
   unfold zbg at *
   simp only [hg _ _ (Ne.symm h13), hg _ _ (Ne.symm h1)]
   exact s
 · rw [hr]; split
   · exact hfm
   · exact h.formed i (by rw [hl] at hi; exact hi)
theorem z0o {a f u v : Int} (h : evCheck [2, a, f, u, v, 0] = 0) : 0 ≤ a ∧ 0 ≤ f := by
 unfold evCheck zce zbr zcu inR zcv inB at h
 simp only [gt, List.getD_cons_zero, List.getD_cons_succ] at h
 simp at h
 omega
theorem Gd.setObj {L n m : Nat} {d : List Int} {E : Em} (h : Gd L n m d E) (id f v : Int) (hs : ∀ a g : Nat, id = a → f = g → a < E.now.objs.length → Right (E.now.setObj a g v)) : Out L (n + 1) m d (E.setObj id f v) := by
 have key : ∀ u S, zen E.now [2, id, f, u, v, 0] = .ok S → Right S ∧ zgh S ∧ L ≤ S.objs.length := fun u S hS => by
  have c2 := z0o (zb1 hS)
  obtain ⟨hl, rfl⟩ := zed hS
  obtain ⟨a, rfl⟩ := Int.eq_ofNat_of_zero_le c2.1
  obtain ⟨g, rfl⟩ := Int.eq_ofNat_of_zero_le c2.2
  have ha : a < E.now.objs.length := by omega
  rw [Int.toNat_natCast, Int.toNat_natCast]
  exact ⟨hs a g rfl rfl ha, zla h.wid a g v ha, by rw [zc6]; exact h.len⟩
 unfold Em.setObj
 rw [if_neg (by rw [h.err]; simp)]
 split
 · refine h.do1 _ (fun S hS => ?_)
   rename_i hc
   rcases hc with hc | hc
   · exact absurd (zb1 hS) hc
   · exact absurd (zed hS).1 (by omega)
 · exact h.set _ _ _ (key _)
theorem Rg.setObj {m : Nat} {d : List Int} {E : Em} (h : Rg m d E) (id f v : Int) (hs : ∀ a g : Nat, id = a → f = g → a < E.now.objs.length → Right (E.now.setObj a g v)) : Og m d (E.setObj id f v) :=
 Og.of (h.sim.setObj (by omega) id f v) (h.gd.setObj id f v hs)
end Go.Proofs.YthfalocligkamaaGreatDoor
namespace Go.Proofs.YthfalocligkamaaGreatDoor
open Go Go.RowKit Go.Shelf
structure Mg (E : Em) : Prop where
 ok : EmOk E 131072
 zone : ∀ i, i < E.now.objs.length → 0 ≤ gt (rowAt E.now.objs i) 3 ∧ gt (rowAt E.now.objs i) 3 < 11
 nums : zvb E.now
 draws : E.draws.length ≤ 1048576
 cur : E.now.num 23 ≤ 1073741824
theorem Rg.mg {m : Nat} {d : List Int} {E : Em} (h : Rg m d E) (hm : m ≤ 131072) (hd : d.length ≤ 1048576) : Mg E where
 ok := ⟨h.right.smallN.mono (by omega), by have := h.evs; omega, by have := h.pend; omega⟩
 zone := fun i hi => by
  obtain ⟨h1, h2⟩ := h.right.num hi (f := 3) (by decide)
  have h1 : 0 ≤ gt (rowAt E.now.objs i) 3 := h1
  have h2 : gt (rowAt E.now.objs i) 3 ≤ 10 := h2
  omega
 nums := fun q hq => by
  have hp : ∀ p f, p < 2 → f < 9 → q = p * 9 + f → -1073741824 ≤ E.now.num q ∧ E.now.num q ≤ 1073741824 := fun p f hp hf e => by
   have := h.right.pl p f hp hf
   rw [e]
   have hf' : f = 0 ∨ f = 1 ∨ f = 2 ∨ f = 3 ∨ f = 4 ∨ f = 5 ∨ f = 6 ∨ f = 7 ∨ f = 8 := by omega
   rcases hf' with rfl | rfl | rfl | rfl | rfl | rfl | rfl | rfl | rfl <;> simp [plBounds, gt] at this <;> omega
  exact hp (q / 9) (q % 9) (by omega) (by omega) (by omega)
 draws := by rw [h.draws]; exact hd
 cur := by
  have h1 : 0 ≤ E.now.num 23 ∧ E.now.num 23 ≤ 4096 := h.right.gm 5 (by decide)
  omega
def Mo (E : Em) : Prop := E.err ≠ 0 ∨ Mg E
theorem Og.mo {m : Nat} {d : List Int} {E : Em} (h : Og m d E) (hm : m ≤ 131072) (hd : d.length ≤ 1048576) : Mo E := h.imp id (fun h => h.mg hm hd)
theorem Emt.stay {w w' : World} {b : Nat} {own : Nat → Prop} {E : Em} (R : Emt w b own E) (g : Grow w w') : EPost w b own E w' := ((Turn.first R).grow g).post (Grow.refl _)
theorem Mo.get {E : Em} (h : Mo E) (he : E.err = 0) : Mg E := h.resolve_left (fun h => h he)
theorem zhb (w : World) (b : Nat) (own : Nat → Prop) (E : Em) (R : Emt w b own E) (H : Mo E) (a f v : Int) :
 Calls Tryz.prog 86 #[.pointer (some ⟨b, 0, none⟩), .int .i64 a, .int .i64 f, .int .i64 v] w fun r w' => r = .returned (.tuple #[]) ∧ EPost w b own (E.setObj a f v) w' := by
 by_cases he : E.err = 0
 · exact zb6 w b own E R 131072 (H.get he).ok (by omega) a f v
 · rw [zf4 he]
   refine (z01 w _ E.err he (zcp R) a f v).mono ?_
   rintro _ w' ⟨rfl, g⟩
   exact ⟨rfl, R.stay g⟩
theorem ze3 (w : World) (b : Nat) (own : Nat → Prop) (E : Em) (R : Emt w b own E) (H : Mo E) (GL : GlobE w own) (id base : Int) :
 Calls Tryz.prog 85 #[.pointer (some ⟨b, 0, none⟩), .int .i64 id, .int .i64 base] w fun r w' => r = .returned (.tuple #[]) ∧ EPost w b own (E.put id base) w' := by
 by_cases he : E.err = 0
 · exact zql w b own E R 131072 (H.get he).ok (by omega) GL (fun _ => (H.get he).zone) id base
 · rw [zpn he]
   refine (z0z w _ E.err he (zcp R) id base).mono ?_
   rintro _ w' ⟨rfl, g⟩
   exact ⟨rfl, R.stay g⟩
theorem zw8 (w : World) (b : Nat) (own : Nat → Prop) (E : Em) (R : Emt w b own E) (H : Mo E) (c o k : Int) :
 Calls Tryz.prog 105 #[.pointer (some ⟨b, 0, none⟩), .int .i64 c, .int .i64 o, .int .i64 k] w fun r w' => r = .returned (.int .i64 (E.made c o k)) ∧ EPost w b own (E.make c o k) w' := by
 by_cases he : E.err = 0
 · exact zsc w b own E R he 131072 (H.get he).ok (by omega) c o k
 · rw [zl0 he]
   have e1 : E.made c o k = 0 := by unfold Em.made; rw [if_pos he]
   rw [e1]
   refine (zv6 w _ E.err he (zcp R) c o k).mono ?_
   rintro _ w' ⟨rfl, g⟩
   exact ⟨rfl, R.stay g⟩
theorem zw6 (w : World) (b : Nat) (own : Nat → Prop) (E : Em) (R : Emt w b own E) (H : Mo E) (GL : GlobE w own) (p : Int) :
 Calls Tryz.prog 74 #[.pointer (some ⟨b, 0, none⟩), .int .i64 p] w fun r w' => r = .returned (.tuple #[]) ∧ EPost w b own (E.draw p) w' := by
 by_cases he : E.err = 0
 · exact zv2 w b own E R he 131072 (H.get he).ok (by omega) GL (H.get he).zone p
 · rw [zll he]
   refine (zv3 w _ E.err he (zcp R) p).mono ?_
   rintro _ w' ⟨rfl, g⟩
   exact ⟨rfl, R.stay g⟩
theorem zcl (w : World) (b : Nat) (own : Nat → Prop) (E : Em) (R : Emt w b own E) (H : Mo E) :
 Calls Tryz.prog 18 #[.pointer (some ⟨b, 0, none⟩)] w fun e w' => ∃ V' : SV, e = .returned (.agg (stA V' E.state.num)) ∧ RepSt w' V' E.state ∧ (∀ k, V'.uses k → w.heap.size ≤ k ∧ k < w'.heap.size) ∧ Grow w w' := by
 by_cases he : E.err = 0
 · exact zsh w b own E R ((H.get he).ok.small.small (by omega))
 · have e1 : E.state = St0 := by unfold Em.state; rw [if_pos he]
   rw [e1]
   refine (zsi w _ E.err he (zcp R)).mono ?_
   rintro _ w' ⟨rfl, g⟩
   exact ⟨SV.zero, rfl, zk9 _, fun k hk => absurd hk (by rintro (h | ⟨z, _, h⟩) <;> exact h), g⟩
end Go.Proofs.YthfalocligkamaaGreatDoor
