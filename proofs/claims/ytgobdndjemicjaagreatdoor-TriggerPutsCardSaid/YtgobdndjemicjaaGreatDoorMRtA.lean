/- What an emitter's Shuffle does, as plain functions. -/
import Derived.Test.YtgobdndjemicjaaGreatDoorMAc1
import Derived.Test.YtgobdndjemicjaaGreatDoorMRtN
namespace Go.Proofs.YtgobdndjemicjaaGreatDoor
open Go Go.RowKit Go.Shelf
end Go.Proofs.YtgobdndjemicjaaGreatDoor
namespace Go.Proofs.YtgobdndjemicjaaGreatDoor
open Go Go.RowKit
@[go_sem] theorem zyi (w : World) (k a f u v : Int) : (za2 122 #[(0, .int .i64 k), (1, .int .i64 a), (2, .int .i64 f), (3, .int .i64 u), (4, .int .i64 v)]).run Tryz.prog w = .ok (.value (.agg (cellsOf [k, a, f, u, v, 0]))) w := by kernel_rfl
end Go.Proofs.YtgobdndjemicjaaGreatDoor
namespace Go.Proofs.YtgobdndjemicjaaGreatDoor
open Go Go.RowKit Go.Shelf
def zfu (S : St) : Prop := ∀ i, i < S.objs.length → (rowAt S.objs i).length = 18
structure Gd (L n m : Nat) (d : List Int) (E : Em) : Prop where
 err : E.err = 0
 right : Right E.now
 wid : zfu E.now
 evs : E.evs.length ≤ n
 pend : E.pend.length ≤ m
 draws : E.draws = d
 len : L ≤ E.now.objs.length
def Out (L n m : Nat) (d : List Int) (E : Em) : Prop := E.err ≠ 0 ∨ Gd L n m d E
theorem Gd.mono {L n m n' m' : Nat} {d : List Int} {E : Em} (h : Gd L n m d E) (hn : n ≤ n') (hm : m ≤ m') : Gd L n' m' d E := ⟨h.err, h.right, h.wid, Nat.le_trans h.evs hn, Nat.le_trans h.pend hm, h.draws, h.len⟩
theorem Out.mono {L n m n' m' : Nat} {d : List Int} {E : Em} (h : Out L n m d E) (hn : n ≤ n') (hm : m ≤ m') : Out L n' m' d E := h.imp id (fun h => h.mono hn hm)
theorem Gd.out {L n m : Nat} {d : List Int} {E : Em} (h : Gd L n m d E) : Out L n m d E := Or.inr h
theorem Gd.do1 {L n m : Nat} {d : List Int} {E : Em} (h : Gd L n m d E) (e : List Int) (hs : ∀ S, zd5 E.now e = .ok S → Right S ∧ zfu S ∧ L ≤ S.objs.length) : Out L (n + 1) m d (E.do1 e) := by
 unfold Em.do1
 rw [if_neg (by rw [h.err]; simp)]
 cases hd : zd5 E.now e with
 | error k => exact Or.inl (zgq hd)
 | ok S =>
   obtain ⟨h1, h2, h3⟩ := hs S hd
   show Out L (n + 1) m d (if E.evs.length < 65536 then _ else _)
   split
   · exact Or.inr ⟨h.err, h1, h2, by rw [List.length_append]; have := h.evs; show E.evs.length + 1 ≤ _; omega, h.pend, h.draws, h3⟩
   · exact Or.inl (by show (5 : Int) ≠ 0; decide)
theorem Gd.set {L n m : Nat} {d : List Int} {E : Em} (h : Gd L n m d E) (e : List Int) (was v : Int) (hs : ∀ S, zd5 E.now ((e.set 3 was).set 4 v) = .ok S → Right S ∧ zfu S ∧ L ≤ S.objs.length) : Out L (n + 1) m d (E.set e was v) := by
 unfold Em.set
 split
 · unfold Em.fail
   rw [if_pos h.err]
   by_cases hc : evCheck ((e.set 3 was).set 4 v) = 0
   · rw [hc]; exact Or.inr ⟨rfl, h.right, h.wid, Nat.le_succ_of_le h.evs, h.pend, h.draws, h.len⟩
   · exact Or.inl hc
 · exact h.do1 _ hs
theorem Gd.setGm {L n m : Nat} {d : List Int} {E : Em} (h : Gd L n m d E) (f : Nat) (hf : f < 7) (v : Int) (hv : inB v (gt gmBounds (f * 2)) (gt gmBounds (f * 2 + 1)) = true) : Out L (n + 1) m d (E.setGame f v) := by
 have key : ∀ u S, zd5 E.now [4, 0, (f : Int), u, v, 0] = .ok S → Right S ∧ zfu S ∧ L ≤ S.objs.length := fun u S hS => by
  have := z7k hS
  subst this
  refine ⟨h.right.setNum _ v (fun p' f' hp' hf' e => ?_) (fun f' hf' e => ?_), h.wid, h.len⟩
  · simp only [Int.toNat_natCast] at e; omega
  · have : f' = f := by simp only [Int.toNat_natCast] at e; omega
    subst this; exact hv
 unfold Em.setGame
 rw [if_neg (by rw [h.err]; simp)]
 split
 · rename_i hc
   refine h.do1 _ (fun S hS => absurd (zdi hS) hc)
 · exact h.set _ _ _ (key _)
theorem Gd.make {L n m : Nat} {d : List Int} {E : Em} (h : Gd L n m d E) (c o k : Int) : Out L (n + 1) m d (E.make c o k) := by
 unfold Em.make
 rw [if_neg (by rw [h.err]; simp)]
 refine h.do1 _ (fun S hS => ?_)
 have hc := zte (zdi hS)
 obtain ⟨hn, rfl⟩ := zkc hS
 refine ⟨h.right.make hn hc, fun i hi => ?_, by show L ≤ (E.now.objs ++ _).length; rw [List.length_append]; have := h.len; omega⟩
 show (rowAt (E.now.objs ++ _) i).length = 18
 have hi : i < (E.now.objs ++ [_]).length := hi
 rw [List.length_append] at hi
 rw [zeu]
 split
 · rename_i e; exact h.wid i e
 · rw [if_pos (by simp at hi; omega)]; rfl
theorem Gd.pick {L n m : Nat} {d : List Int} {E : Em} (h : Gd L n m d E) (k : Int) : Out L (n + 1) m d (E.pick k) := by
 unfold Em.pick
 rw [if_neg (by rw [h.err]; simp)]
 unfold z8u
 have bad : ∀ e : Int, e ≠ 0 → Out L (n + 1) m d ((E.fail e).setGame 5 0) := fun e he => by
  have : (E.fail e).err ≠ 0 := by unfold Em.fail; rw [if_pos h.err]; exact he
  refine Or.inl ?_
  unfold Em.setGame
  rw [if_pos this]; exact this
 split
 · exact bad 19 (by decide)
 split
 · exact bad 1 (by decide)
 split
 · exact bad 13 (by decide)
 · have h0 := h.right.gm 5 (by decide)
   show Out L (n + 1) m d ((E.fail 0).setGame ((5 : Nat) : Int) (E.now.num 23 + 1))
   rw [Em.fail0 h.err]
   refine h.setGm 5 (by decide) _ ?_
   simp [inB, gmBounds, gt]
   omega
theorem PutTo.wid {E E' : Em} {a z c d : Nat} (h : PutTo E E' a z c d) (hw : zfu E.now) (ha : a < E.now.objs.length) : zfu E'.now := fun i hi => by
 rw [h.objs] at hi ⊢
 rw [List.length_set] at hi
 rw [zby _ _ _ _ ha]
 split
 · rename_i e; subst e
   rw [zkr _ (hw _ ha)]
   (repeat' split) <;> rfl
 · exact hw i hi
theorem Gd.put {L n m : Nat} {d : List Int} {E : Em} (h : Gd L n m d E) (hn : n + 14 ≤ 65536) (id base : Int) : Out L (n + 14) (m + 2) d (E.put id base) := by
 by_cases hi : 0 ≤ id ∧ id < E.now.objs.length
 · by_cases hb : zfw base = true
   · obtain ⟨a, rfl⟩ := Int.eq_ofNat_of_zero_le hi.1
     obtain ⟨z, c, dd, _, _, _, _, _, _, hp⟩ := zh7 h.err h.right h.wid a (by omega) base hb (by have := h.evs; omega)
     exact Or.inr ⟨hp.err, hp.right, hp.wid h.wid (by omega), Nat.le_trans hp.evs (by have := h.evs; omega), Nat.le_trans hp.pend (by have := h.pend; omega), by rw [hp.draws]; exact h.draws, by rw [hp.objs, List.length_set]; exact h.len⟩
   · refine Or.inl ?_
     unfold Em.put
     rw [if_neg (by rw [h.err]; simp), if_neg (fun h => h hi), if_pos (by simpa using hb)]
     show (12 : Int) ≠ 0
     decide
 · refine Or.inl ?_
   unfold Em.put
   rw [if_neg (by rw [h.err]; simp), if_pos hi]
   show (4 : Int) ≠ 0
   decide
theorem Gd.knows {L n m : Nat} {d : List Int} {E : Em} (h : Gd L n m d E) (id u v : Int) (h0 : 0 ≤ id) (hv : 0 ≤ v ∧ v ≤ 3) : Out L (n + 1) m d (E.do1 [2, id, 17, u, v, 0]) := by
 refine h.do1 _ (fun S hS => ?_)
 obtain ⟨hl, rfl⟩ := zgr hS
 obtain ⟨a, rfl⟩ := Int.eq_ofNat_of_zero_le h0
 have ha : a < E.now.objs.length := by omega
 rw [Int.toNat_natCast]
 exact ⟨h.right.knows h.wid a ha v hv.1 hv.2, zi1 h.wid a 17 v ha, by rw [show ((17 : Int).toNat) = 17 from rfl, zb6]; exact h.len⟩
theorem and3 (p : Int) : 0 ≤ bits .and .i64 p 3 ∧ bits .and .i64 p 3 ≤ 3 := by
 have hv : (BitVec.ofInt 64 p &&& BitVec.ofInt 64 3).toNat ≤ 3 := by
  rw [BitVec.toNat_and, show (BitVec.ofInt 64 3).toNat = 3 from rfl]
  exact Nat.and_le_right
 have key : bits .and .i64 p 3 = IntKind.i64.wrap ((BitVec.ofInt 64 p &&& BitVec.ofInt 64 3).toNat : Int) := rfl
 rw [key]
 generalize (BitVec.ofInt 64 p &&& BitVec.ofInt 64 3).toNat = q at hv
 have : q = 0 ∨ q = 1 ∨ q = 2 ∨ q = 3 := by omega
 rcases this with rfl | rfl | rfl | rfl <;> decide
theorem zy9 (w p : Int) (h0 : 0 ≤ w) (h1 : w ≤ 3) : 0 ≤ zdp w p ∧ zdp w p ≤ 3 := by
 obtain ⟨a, b⟩ := and3 p
 unfold zdp
 generalize bits .and .i64 p 3 = q at *
 have h2 : w = 0 ∨ w = 1 ∨ w = 2 ∨ w = 3 := by omega
 have h3 : q = 0 ∨ q = 1 ∨ q = 2 ∨ q = 3 := by omega
 rcases h3 with rfl | rfl | rfl | rfl <;> rcases h2 with rfl | rfl | rfl | rfl <;> decide
theorem z7o (E : Em) (e : List Int) : E.dos [e] = E.do1 e := rfl
theorem Gd.show {L n m : Nat} {d : List Int} {E : Em} (h : Gd L n m d E) (id p : Int) : Out L (n + 1) m d (E.show id p) := by
 unfold Em.show
 rw [if_neg (by rw [h.err]; simp)]
 unfold showEv
 split
 · exact (h.mono (Nat.le_succ n) (Nat.le_refl m)).out
 split
 · exact (h.mono (Nat.le_succ n) (Nat.le_refl m)).out
 · rename_i hi _
   obtain ⟨a, rfl⟩ := Int.eq_ofNat_of_zero_le (show 0 ≤ id by omega)
   have := h.right.knowsIn a (by omega)
   rw [Int.toNat_natCast, z7o]
   exact h.knows _ _ _ (by omega) (zy9 _ _ this.1 this.2)
end Go.Proofs.YtgobdndjemicjaaGreatDoor
