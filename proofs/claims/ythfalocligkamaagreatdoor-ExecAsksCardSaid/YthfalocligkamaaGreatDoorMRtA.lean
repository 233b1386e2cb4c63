/- A right state stays right behind an emitter's acts: the plain law. -/
import Derived.Test.YthfalocligkamaaGreatDoorMPutN
import Derived.Test.YthfalocligkamaaGreatDoorMAc1
import Derived.Test.YthfalocligkamaaGreatDoorMShN
namespace Go.Proofs.YthfalocligkamaaGreatDoor
open Go Go.RowKit Go.Shelf
theorem Right.setNum {S : St} (h : Right S) (q : Nat) (v : Int) (hp : ∀ p f, p < 2 → f < 9 → q = p * 9 + f → inB v (gt plBounds (f * 2)) (gt plBounds (f * 2 + 1)) = true) (hg : ∀ f, f < 7 → q = 18 + f → inB v (gt gmBounds (f * 2)) (gt gmBounds (f * 2 + 1)) = true) : Right (S.setNum q v) := by
 refine ⟨h.many, (za2 _).2 ⟨((za2 S).1 h.ranges).1, ?_, ?_⟩, ⟨h.zon.ok, h.zon.once⟩, h.formed⟩
 · have := ((za2 S).1 h.ranges).2.1
   unfold zfn zdv at *
   rw [List.all_eq_true] at *
   intro i hi
   have h4 := this i hi
   rw [List.all_eq_true] at *
   intro f hf
   have h5 := h4 f hf
   have hi2 := List.mem_range.1 hi
   have hf2 := List.mem_range.1 hf
   rw [zej _ _ _ _ hf2] at h5 ⊢
   show inB (upd S.num q v (i * 9 + f)) _ _ = true
   by_cases e : q = i * 9 + f
   · rw [e, zbo]; exact hp i f hi2 hf2 e
   · rw [zco _ _ _ _ (by omega)]; exact h5
 · have := ((za2 S).1 h.ranges).2.2
   unfold zdv at *
   rw [List.all_eq_true] at *
   intro f hf
   have h5 := this f hf
   have hf2 := List.mem_range.1 hf
   rw [zej _ _ _ _ hf2] at h5 ⊢
   show inB (upd S.num q v (18 + f)) _ _ = true
   by_cases e : q = 18 + f
   · rw [e, zbo]; exact hg f hf2 e
   · rw [zco _ _ _ _ (by omega)]; exact h5
theorem Right.pl {S : St} (h : Right S) (p f : Nat) (hp : p < 2) (hf : f < 9) : gt plBounds (f * 2) ≤ S.num (p * 9 + f) ∧ S.num (p * 9 + f) ≤ gt plBounds (f * 2 + 1) := by
 have := ((za2 S).1 h.ranges).2.1
 unfold zfn zdv at this
 rw [List.all_eq_true] at this
 have h4 := this p (List.mem_range.2 hp)
 rw [List.all_eq_true] at h4
 have h5 := h4 f (List.mem_range.2 hf)
 rw [zej _ _ _ _ hf] at h5
 simpa [inB] using h5
theorem Right.gm {S : St} (h : Right S) (f : Nat) (hf : f < 7) : gt gmBounds (f * 2) ≤ S.num (18 + f) ∧ S.num (18 + f) ≤ gt gmBounds (f * 2 + 1) := by
 have := ((za2 S).1 h.ranges).2.2
 unfold zdv at this
 rw [List.all_eq_true] at this
 have h5 := this f (List.mem_range.2 hf)
 rw [zej _ _ _ _ hf] at h5
 simpa [inB] using h5
theorem zb1 {S T : St} {e : List Int} (h : zen S e = .ok T) : evCheck e = 0 := by
 unfold zen at h
 by_cases c : evCheck e = 0
 · exact c
 · rw [if_pos c] at h; cases h
theorem zow {S T : St} {p f u v : Int} (h : zen S [3, p, f, u, v, 0] = .ok T) : T = S.setNum (p.toNat * 9 + f.toNat) v := by
 have hc := zb1 h
 unfold zen at h
 rw [if_neg (by rw [hc]; simp)] at h
 have g0 : gt [3, p, f, u, v, 0] 0 = 3 := rfl
 have g1 : gt [3, p, f, u, v, 0] 1 = p := rfl
 have g2 : gt [3, p, f, u, v, 0] 2 = f := rfl
 have g4 : gt [3, p, f, u, v, 0] 4 = v := rfl
 rw [g0, g1, g2, g4] at h
 simp at h
 split at h
 · cases h; rfl
 · cases h
theorem zi7 {S T : St} {f u v : Int} (h : zen S [4, 0, f, u, v, 0] = .ok T) : T = S.setNum (18 + f.toNat) v := by
 have hc := zb1 h
 unfold zen at h
 rw [if_neg (by rw [hc]; simp)] at h
 have g0 : gt [4, 0, f, u, v, 0] 0 = 4 := rfl
 have g2 : gt [4, 0, f, u, v, 0] 2 = f := rfl
 have g4 : gt [4, 0, f, u, v, 0] 4 = v := rfl
 rw [g0, g2, g4] at h
 simp at h
 split at h
 · cases h; rfl
 · cases h
theorem zed {S T : St} {a f u v : Int} (h : zen S [2, a, f, u, v, 0] = .ok T) : (a < S.objs.length) ∧ T = S.setObj a.toNat f.toNat v := by
 have hc := zb1 h
 unfold zen at h
 rw [if_neg (by rw [hc]; simp)] at h
 have g0 : gt [2, a, f, u, v, 0] 0 = 2 := rfl
 have g1 : gt [2, a, f, u, v, 0] 1 = a := rfl
 have g2 : gt [2, a, f, u, v, 0] 2 = f := rfl
 have g4 : gt [2, a, f, u, v, 0] 4 = v := rfl
 rw [g0, g1, g2, g4] at h
 simp only [reduceIte, show ¬ (2 : Int) = 0 by decide, show ¬ (2 : Int) = 5 by decide, show ¬ (2 : Int) = 1 by decide] at h
 split at h
 · cases h
 · split at h
   · cases h
   · rename_i hl _
     cases h
     exact ⟨by omega, rfl⟩
theorem zr3 {c o k : Int} (h : evCheck [0, c, o, k, 0, 0] = 0) : 0 ≤ c ∧ c < 120 ∧ 0 ≤ o ∧ o < 2 ∧ 0 ≤ k ∧ k < 3 := by
 unfold evCheck zce zbr zcu inR zcv inB at h
 simp only [gt, List.getD_cons_zero, List.getD_cons_succ] at h
 simp at h
 omega
theorem zmx {S T : St} {c o k : Int} (h : zen S [0, c, o, k, 0, 0] = .ok T) : S.objs.length < 400 ∧ T = { S with objs := S.objs ++ [[c, o, o, 10, 0, 0, 0, 0, 0, 0, 0, 0, 0, k, 0, 0, 0, 3]], list := upd S.list 10 (S.list 10 ++ [(S.objs.length : Int)]) } := by
 have hc := zb1 h
 unfold zen at h
 rw [if_neg (by rw [hc]; simp)] at h
 have g0 : gt [0, c, o, k, 0, 0] 0 = 0 := rfl
 rw [g0, if_pos rfl] at h
 unfold zgj at h
 split at h
 · cases h
 · rename_i hl
   cases h
   exact ⟨by omega, rfl⟩
theorem zju (l : List (List Int)) (r : List Int) (i : Nat) : rowAt (l ++ [r]) i = if i < l.length then rowAt l i else if i = l.length then r else [] := by
 unfold rowAt List.getD
 by_cases h : i < l.length
 · rw [if_pos h, List.getElem?_append_left h]
 · rw [if_neg h, List.getElem?_append_right (by omega)]
   by_cases e : i = l.length
   · rw [if_pos e, e, Nat.sub_self]; rfl
   · rw [if_neg e, List.getElem?_eq_none (by simp; omega)]; rfl
theorem zom (n : Int) (o : List Int) (h : zdv (zal n) o 18 = true) : zdv (zal (n + 1)) o 18 = true := by
 unfold zdv at *
 rw [List.all_eq_true] at *
 intro f hf
 have h5 := h f hf
 have hf2 := List.mem_range.1 hf
 have key : gt (zal (n + 1)) (f * 2) = gt (zal n) (f * 2) ∧ gt (zal n) (f * 2 + 1) ≤ gt (zal (n + 1)) (f * 2 + 1) := by
  have : f = 0 ∨ f = 1 ∨ f = 2 ∨ f = 3 ∨ f = 4 ∨ f = 5 ∨ f = 6 ∨ f = 7 ∨ f = 8 ∨ f = 9 ∨ f = 10 ∨ f = 11 ∨ f = 12 ∨ f = 13 ∨ f = 14 ∨ f = 15 ∨ f = 16 ∨ f = 17 := by omega
  rcases this with rfl | rfl | rfl | rfl | rfl | rfl | rfl | rfl | rfl | rfl | rfl | rfl | rfl | rfl | rfl | rfl | rfl | rfl <;> exact ⟨rfl, by simp [gt, zal]; try omega⟩
 unfold inB at *
 rw [key.1]
 simp at h5 ⊢
 omega
theorem z6q (S : St) (x y : Int) (o : List (List Int)) (k : Nat) (hk : k ≤ 11) : zcg { S with objs := o, list := upd S.list 10 (S.list 10 ++ [y]) } x k = zcg S x k + (if k = 11 ∧ x = y then 1 else 0) := by
 induction k with
 | zero => simp [zcg]
 | succ k ih =>
   rw [zb0, zb0, ih (by omega)]
   show _ + List.count x (upd S.list 10 (S.list 10 ++ [y]) k) = _
   by_cases e : k = 10
   · subst e
     rw [zbo, List.count_append, if_neg (by omega)]
     by_cases e2 : x = y
     · subst e2; rw [if_pos ⟨rfl, rfl⟩]; simp; omega
     · rw [if_neg (by omega)]; simp [Ne.symm e2]
   · rw [zco _ _ _ _ (by omega), if_neg (by omega), if_neg (by omega)]; omega
theorem Right.make {S : St} (h : Right S) {c o k : Int} (hn : S.objs.length < 400) (hc : 0 ≤ c ∧ c < 120 ∧ 0 ≤ o ∧ o < 2 ∧ 0 ≤ k ∧ k < 3) :
 Right { S with objs := S.objs ++ [[c, o, o, 10, 0, 0, 0, 0, 0, 0, 0, 0, 0, k, 0, 0, 0, 3]], list := upd S.list 10 (S.list 10 ++ [(S.objs.length : Int)]) } := by
 generalize hr : ([c, o, o, 10, 0, 0, 0, 0, 0, 0, 0, 0, 0, k, 0, 0, 0, 3] : List Int) = r
 have hl : (S.objs ++ [r]).length = S.objs.length + 1 := by simp
 have hrow : ∀ i, i < S.objs.length → rowAt (S.objs ++ [r]) i = rowAt S.objs i := fun i hi => by rw [zju, if_pos hi]
 have hlast : rowAt (S.objs ++ [r]) S.objs.length = r := by rw [zju, if_neg (by omega), if_pos rfl]
 have hmem : ∀ z, z < 11 → ∀ x ∈ S.list z, x ≠ (S.objs.length : Int) := fun z hz x hx e => by
  obtain ⟨p, q, _, _⟩ := h.zon.ok z hz x hx
  omega
 refine ⟨by show (S.objs ++ [r]).length ≤ 400; omega, (za2 _).2 ⟨fun i hi => ?_, ?_, ?_⟩, ⟨fun z hz x hx => ?_, fun id hid => ?_⟩, fun i hi => ?_⟩
 · show zdv (zal ((S.objs ++ [r]).length : Int)) (rowAt (S.objs ++ [r]) i) 18 = true
   have hi : i < (S.objs ++ [r]).length := hi
   rw [hl] at hi
   rw [hl]
   by_cases e : i < S.objs.length
   · rw [hrow i e, show ((S.objs.length + 1 : Nat) : Int) = (S.objs.length : Int) + 1 by omega]
     exact zom _ _ (h.row e)
   · rw [show i = S.objs.length by omega, hlast, ← hr]
     unfold zdv
     rw [List.all_eq_true]
     intro f hf
     have hf2 := List.mem_range.1 hf
     have : f = 0 ∨ f = 1 ∨ f = 2 ∨ f = 3 ∨ f = 4 ∨ f = 5 ∨ f = 6 ∨ f = 7 ∨ f = 8 ∨ f = 9 ∨ f = 10 ∨ f = 11 ∨ f = 12 ∨ f = 13 ∨ f = 14 ∨ f = 15 ∨ f = 16 ∨ f = 17 := by omega
     rcases this with rfl | rfl | rfl | rfl | rfl | rfl | rfl | rfl | rfl | rfl | rfl | rfl | rfl | rfl | rfl | rfl | rfl | rfl <;> simp [gt, zal, inB] <;> omega
 · exact ((za2 S).1 h.ranges).2.1
 · exact ((za2 S).1 h.ranges).2.2
 · have hx : x ∈ upd S.list 10 (S.list 10 ++ [(S.objs.length : Int)]) z := hx
   have old : x ∈ S.list z → z4t { S with objs := S.objs ++ [r], list := upd S.list 10 (S.list 10 ++ [(S.objs.length : Int)]) } z x := fun hx => by
    obtain ⟨p, q, s, t⟩ := h.zon.ok z hz x hx
    refine ⟨p, by show x < ((S.objs ++ [r]).length : Int); omega, ?_, ?_⟩
    · show gt (rowAt (S.objs ++ [r]) x.toNat) 3 = z
      rw [hrow _ (by omega)]; exact s
    · show zbg (rowAt (S.objs ++ [r]) x.toNat) z = true
      rw [hrow _ (by omega)]; exact t
   by_cases e : z = 10
   · subst e
     rw [zbo, List.mem_append, List.mem_singleton] at hx
     rcases hx with hx | hx
     · exact old hx
     · subst hx
       refine ⟨by omega, by show _ < ((S.objs ++ [r]).length : Int); omega, ?_, ?_⟩
       · show gt (rowAt (S.objs ++ [r]) (S.objs.length : Int).toNat) 3 = (10 : Nat)
         rw [Int.toNat_natCast, hlast, ← hr]; rfl
       · show zbg (rowAt (S.objs ++ [r]) (S.objs.length : Int).toNat) (10 : Nat) = true
         rw [Int.toNat_natCast, hlast]; rfl
   · rw [zco _ _ _ _ (by omega)] at hx
     exact old hx
 · have hid : id < (S.objs ++ [r]).length := hid
   rw [hl] at hid
   rw [z6q _ _ _ _ _ (by omega)]
   by_cases e : id < S.objs.length
   · rw [h.zon.once id e, if_neg (by omega)]
   · rw [if_pos (by omega)]
     have : ∀ k, k ≤ 11 → zcg S (id : Int) k = 0 := fun k => by
      induction k with
      | zero => intro _; simp [zcg]
      | succ k ih =>
        intro hk
        rw [zb0, ih (by omega), List.count_eq_zero_of_not_mem (fun hm => hmem k (by omega) _ hm (by omega))]
     rw [this 11 (by omega)]
 · have hi : i < (S.objs ++ [r]).length := hi
   rw [hl] at hi
   show zbf (rowAt (S.objs ++ [r]) i) = true
   by_cases e : i < S.objs.length
   · rw [hrow i e]; exact h.formed i e
   · rw [show i = S.objs.length by omega, hlast, ← hr]
     simp [zbf, gt, restingL]
     exact ⟨rfl, rfl, rfl, rfl, rfl, rfl, rfl, rfl, rfl⟩
end Go.Proofs.YthfalocligkamaaGreatDoor
namespace Go.Proofs.YthfalocligkamaaGreatDoor
open Go Go.RowKit Go.Shelf
def zgh (S : St) : Prop := ∀ i, i < S.objs.length → (rowAt S.objs i).length = 18
structure Gd (L n m : Nat) (d : List Int) (E : Em) : Prop where
 err : E.err = 0
 right : Right E.now
 wid : zgh E.now
 evs : E.evs.length ≤ n
 pend : E.pend.length ≤ m
 draws : E.draws = d
 len : L ≤ E.now.objs.length
def Out (L n m : Nat) (d : List Int) (E : Em) : Prop := E.err ≠ 0 ∨ Gd L n m d E
theorem Gd.mono {L n m n' m' : Nat} {d : List Int} {E : Em} (h : Gd L n m d E) (hn : n ≤ n') (hm : m ≤ m') : Gd L n' m' d E := ⟨h.err, h.right, h.wid, Nat.le_trans h.evs hn, Nat.le_trans h.pend hm, h.draws, h.len⟩
theorem Out.mono {L n m n' m' : Nat} {d : List Int} {E : Em} (h : Out L n m d E) (hn : n ≤ n') (hm : m ≤ m') : Out L n' m' d E := h.imp id (fun h => h.mono hn hm)
theorem Gd.out {L n m : Nat} {d : List Int} {E : Em} (h : Gd L n m d E) : Out L n m d E := Or.inr h
theorem z6s {E : Em} (h : E.err ≠ 0) (e : List Int) : (E.do1 e).err ≠ 0 := by
 unfold Em.do1
 rw [if_pos h]; exact h
theorem Gd.do1 {L n m : Nat} {d : List Int} {E : Em} (h : Gd L n m d E) (e : List Int) (hs : ∀ S, zen E.now e = .ok S → Right S ∧ zgh S ∧ L ≤ S.objs.length) : Out L (n + 1) m d (E.do1 e) := by
 unfold Em.do1
 rw [if_neg (by rw [h.err]; simp)]
 cases hd : zen E.now e with
 | error k => exact Or.inl (zfx hd)
 | ok S =>
   obtain ⟨h1, h2, h3⟩ := hs S hd
   show Out L (n + 1) m d (if E.evs.length < 65536 then _ else _)
   split
   · exact Or.inr ⟨h.err, h1, h2, by rw [List.length_append]; have := h.evs; show E.evs.length + 1 ≤ _; omega, h.pend, h.draws, h3⟩
   · exact Or.inl (by show (5 : Int) ≠ 0; decide)
theorem Gd.set {L n m : Nat} {d : List Int} {E : Em} (h : Gd L n m d E) (e : List Int) (was v : Int) (hs : ∀ S, zen E.now ((e.set 3 was).set 4 v) = .ok S → Right S ∧ zgh S ∧ L ≤ S.objs.length) : Out L (n + 1) m d (E.set e was v) := by
 unfold Em.set
 split
 · unfold Em.fail
   rw [if_pos h.err]
   by_cases hc : evCheck ((e.set 3 was).set 4 v) = 0
   · rw [hc]; exact Or.inr ⟨rfl, h.right, h.wid, Nat.le_succ_of_le h.evs, h.pend, h.draws, h.len⟩
   · exact Or.inl hc
 · exact h.do1 _ hs
theorem Gd.setPl {L n m : Nat} {d : List Int} {E : Em} (h : Gd L n m d E) (p f : Nat) (hp : p < 2) (hf : f < 9) (v : Int) (hv : inB v (gt plBounds (f * 2)) (gt plBounds (f * 2 + 1)) = true) : Out L (n + 1) m d (E.setPl p f v) := by
 have key : ∀ u S, zen E.now [3, (p : Int), (f : Int), u, v, 0] = .ok S → Right S ∧ zgh S ∧ L ≤ S.objs.length := fun u S hS => by
  have := zow hS
  subst this
  refine ⟨h.right.setNum _ v (fun p' f' hp' hf' e => ?_) (fun f' hf' e => ?_), h.wid, h.len⟩
  · have : f' = f := by simp only [Int.toNat_natCast] at e; omega
    subst this; exact hv
  · simp only [Int.toNat_natCast] at e; omega
 unfold Em.setPl
 rw [if_neg (by rw [h.err]; simp)]
 split
 · rename_i hc
   refine h.do1 _ (fun S hS => absurd (zb1 hS) hc)
 · exact h.set _ _ _ (key _)
theorem Gd.setGm {L n m : Nat} {d : List Int} {E : Em} (h : Gd L n m d E) (f : Nat) (hf : f < 7) (v : Int) (hv : inB v (gt gmBounds (f * 2)) (gt gmBounds (f * 2 + 1)) = true) : Out L (n + 1) m d (E.setGame f v) := by
 have key : ∀ u S, zen E.now [4, 0, (f : Int), u, v, 0] = .ok S → Right S ∧ zgh S ∧ L ≤ S.objs.length := fun u S hS => by
  have := zi7 hS
  subst this
  refine ⟨h.right.setNum _ v (fun p' f' hp' hf' e => ?_) (fun f' hf' e => ?_), h.wid, h.len⟩
  · simp only [Int.toNat_natCast] at e; omega
  · have : f' = f := by simp only [Int.toNat_natCast] at e; omega
    subst this; exact hv
 unfold Em.setGame
 rw [if_neg (by rw [h.err]; simp)]
 split
 · rename_i hc
   refine h.do1 _ (fun S hS => absurd (zb1 hS) hc)
 · exact h.set _ _ _ (key _)
theorem zol (n a b : Int) (h : a ≤ b) : a ≤ betw n a b ∧ betw n a b ≤ b := by unfold betw; omega
theorem Gd.life {L n m : Nat} {d : List Int} {E : Em} (h : Gd L n m d E) (p more : Int) : Out L (n + 1) m d (E.life p more) := by
 unfold Em.life
 rw [if_neg (by rw [h.err]; simp)]
 split
 · exact Or.inl (by show (1 : Int) ≠ 0; decide)
 · obtain ⟨q, rfl⟩ := Int.eq_ofNat_of_zero_le (show 0 ≤ p by omega)
   refine h.setPl q 0 (by omega) (by omega) _ ?_
   have := zol (E.now.num ((q : Int).toNat * 9) + betw more (-2147483648) 2147483648) (-1073741824) 1073741824 (by decide)
   generalize betw (E.now.num ((q : Int).toNat * 9) + betw more (-2147483648) 2147483648) (-1073741824) 1073741824 = v at *
   simp [inB, plBounds, gt]
   omega
theorem Gd.mana {L n m : Nat} {d : List Int} {E : Em} (h : Gd L n m d E) (p l more : Int) : Out L (n + 1) m d (E.mana p l more) := by
 unfold Em.mana
 rw [if_neg (by rw [h.err]; simp)]
 split
 · exact Or.inl (by show (1 : Int) ≠ 0; decide)
 split
 · exact Or.inl (by show (6 : Int) ≠ 0; decide)
 · obtain ⟨q, rfl⟩ := Int.eq_ofNat_of_zero_le (show 0 ≤ p by omega)
   obtain ⟨k, rfl⟩ := Int.eq_ofNat_of_zero_le (show 0 ≤ l by omega)
   have e : (1 + (k : Int)) = ((k + 1 : Nat) : Int) := by omega
   have hb := zol (E.now.num ((q : Int).toNat * 9 + (1 + (k : Int)).toNat) + betw more (-2000) 2000) 0 1000 (by decide)
   generalize betw (E.now.num ((q : Int).toNat * 9 + (1 + (k : Int)).toNat) + betw more (-2000) 2000) 0 1000 = v at *
   rw [e]
   refine h.setPl q (k + 1) (by omega) (by omega) _ ?_
   have : k = 0 ∨ k = 1 ∨ k = 2 ∨ k = 3 ∨ k = 4 ∨ k = 5 := by omega
   rcases this with rfl | rfl | rfl | rfl | rfl | rfl <;> simp [inB, plBounds, gt] <;> omega
theorem Gd.make {L n m : Nat} {d : List Int} {E : Em} (h : Gd L n m d E) (c o k : Int) : Out L (n + 1) m d (E.make c o k) := by
 unfold Em.make
 rw [if_neg (by rw [h.err]; simp)]
 refine h.do1 _ (fun S hS => ?_)
 have hc := zr3 (zb1 hS)
 obtain ⟨hn, rfl⟩ := zmx hS
 refine ⟨h.right.make hn hc, fun i hi => ?_, by show L ≤ (E.now.objs ++ _).length; rw [List.length_append]; have := h.len; omega⟩
 show (rowAt (E.now.objs ++ _) i).length = 18
 have hi : i < (E.now.objs ++ [_]).length := hi
 rw [List.length_append] at hi
 rw [zju]
 split
 · rename_i e; exact h.wid i e
 · rw [if_pos (by simp at hi; omega)]; rfl
theorem Gd.pick {L n m : Nat} {d : List Int} {E : Em} (h : Gd L n m d E) (k : Int) : Out L (n + 1) m d (E.pick k) := by
 unfold Em.pick
 rw [if_neg (by rw [h.err]; simp)]
 unfold zeb
 have bad : ∀ e : Int, e ≠ 0 → Out L (n + 1) m d ((E.fail e).setGame 5 0) := fun e he => by
  have : (E.fail e).err ≠ 0 := by unfold Em.fail; rw [if_pos h.err]; exact he
  refine Or.inl ?_
  unfold Em.setGame
  rw [if_pos this]; exact this
 split
 · exact bad 19 (by decide)
 split
 · exact bad 1 (by decide)
 split
 · exact bad 13 (by decide)
 · have h0 := h.right.gm 5 (by decide)
   show Out L (n + 1) m d ((E.fail 0).setGame ((5 : Nat) : Int) (E.now.num 23 + 1))
   rw [Em.fail0 h.err]
   refine h.setGm 5 (by decide) _ ?_
   simp [inB, gmBounds, gt]
   omega
theorem PutTo.wid {E E' : Em} {a z c d : Nat} (h : PutTo E E' a z c d) (hw : zgh E.now) (ha : a < E.now.objs.length) : zgh E'.now := fun i hi => by
 rw [h.objs] at hi ⊢
 rw [List.length_set] at hi
 rw [zb5 _ _ _ _ ha]
 split
 · rename_i e; subst e
   rw [znl _ (hw _ ha)]
   (repeat' split) <;> rfl
 · exact hw i hi
theorem Gd.put {L n m : Nat} {d : List Int} {E : Em} (h : Gd L n m d E) (hn : n + 14 ≤ 65536) (id base : Int) : Out L (n + 14) (m + 2) d (E.put id base) := by
 by_cases hi : 0 ≤ id ∧ id < E.now.objs.length
 · by_cases hb : zgv base = true
   · obtain ⟨a, rfl⟩ := Int.eq_ofNat_of_zero_le hi.1
     obtain ⟨z, c, dd, _, _, _, _, _, _, hp⟩ := zq1 h.err h.right h.wid a (by omega) base hb (by have := h.evs; omega)
     exact Or.inr ⟨hp.err, hp.right, hp.wid h.wid (by omega), Nat.le_trans hp.evs (by have := h.evs; omega), Nat.le_trans hp.pend (by have := h.pend; omega), by rw [hp.draws]; exact h.draws, by rw [hp.objs, List.length_set]; exact h.len⟩
   · refine Or.inl ?_
     unfold Em.put
     rw [if_neg (by rw [h.err]; simp), if_neg (fun h => h hi), if_pos (by simpa using hb)]
     show (12 : Int) ≠ 0
     decide
 · refine Or.inl ?_
   unfold Em.put
   rw [if_neg (by rw [h.err]; simp), if_pos hi]
   show (4 : Int) ≠ 0
   decide
theorem Gd.draw {L n m : Nat} {d : List Int} {E : Em} (h : Gd L n m d E) (hn : n + 14 ≤ 65536) (p : Int) : Out L (n + 14) (m + 2) d (E.draw p) := by
 unfold Em.draw
 rw [if_neg (by rw [h.err]; simp)]
 split
 · exact Or.inl (by show (1 : Int) ≠ 0; decide)
 split
 · obtain ⟨q, rfl⟩ := Int.eq_ofNat_of_zero_le (show 0 ≤ p by omega)
   exact (h.setPl q 8 (by omega) (by omega) 1 (by decide)).mono (by omega) (by omega)
 · exact h.put hn _ _
theorem Gd.knows {L n m : Nat} {d : List Int} {E : Em} (h : Gd L n m d E) (id u v : Int) (h0 : 0 ≤ id) (hv : 0 ≤ v ∧ v ≤ 3) : Out L (n + 1) m d (E.do1 [2, id, 17, u, v, 0]) := by
 refine h.do1 _ (fun S hS => ?_)
 obtain ⟨hl, rfl⟩ := zed hS
 obtain ⟨a, rfl⟩ := Int.eq_ofNat_of_zero_le h0
 have ha : a < E.now.objs.length := by omega
 rw [Int.toNat_natCast]
 exact ⟨h.right.knows h.wid a ha v hv.1 hv.2, zla h.wid a 17 v ha, by rw [show ((17 : Int).toNat) = 17 from rfl, zc6]; exact h.len⟩
theorem yhw (p : Int) : 0 ≤ bits .and .i64 p 3 ∧ bits .and .i64 p 3 ≤ 3 := by
 have hv : (BitVec.ofInt 64 p &&& BitVec.ofInt 64 3).toNat ≤ 3 := by
  rw [BitVec.toNat_and, show (BitVec.ofInt 64 3).toNat = 3 from rfl]
  exact Nat.and_le_right
 have key : bits .and .i64 p 3 = IntKind.i64.wrap ((BitVec.ofInt 64 p &&& BitVec.ofInt 64 3).toNat : Int) := rfl
 rw [key]
 generalize (BitVec.ofInt 64 p &&& BitVec.ofInt 64 3).toNat = q at hv
 have : q = 0 ∨ q = 1 ∨ q = 2 ∨ q = 3 := by omega
 rcases this with rfl | rfl | rfl | rfl <;> decide
theorem zyl (w p : Int) (h0 : 0 ≤ w) (h1 : w ≤ 3) : 0 ≤ zdo w p ∧ zdo w p ≤ 3 := by
 obtain ⟨a, b⟩ := yhw p
 unfold zdo
 generalize bits .and .i64 p 3 = q at *
 have h2 : w = 0 ∨ w = 1 ∨ w = 2 ∨ w = 3 := by omega
 have h3 : q = 0 ∨ q = 1 ∨ q = 2 ∨ q = 3 := by omega
 rcases h3 with rfl | rfl | rfl | rfl <;> rcases h2 with rfl | rfl | rfl | rfl <;> decide
theorem zwp (w p : Int) (h0 : 0 ≤ w) (h1 : w ≤ 3) : 0 ≤ zji w p ∧ zji w p ≤ 3 := by
 obtain ⟨a, b⟩ := yhw p
 unfold zji
 generalize bits .and .i64 p 3 = q at *
 have h2 : w = 0 ∨ w = 1 ∨ w = 2 ∨ w = 3 := by omega
 have h3 : q = 0 ∨ q = 1 ∨ q = 2 ∨ q = 3 := by omega
 rcases h3 with rfl | rfl | rfl | rfl <;> rcases h2 with rfl | rfl | rfl | rfl <;> decide
theorem zvx (E : Em) (e : List Int) : E.dos [e] = E.do1 e := rfl
theorem Gd.show {L n m : Nat} {d : List Int} {E : Em} (h : Gd L n m d E) (id p : Int) : Out L (n + 1) m d (E.show id p) := by
 unfold Em.show
 rw [if_neg (by rw [h.err]; simp)]
 unfold showEv
 split
 · exact (h.mono (Nat.le_succ n) (Nat.le_refl m)).out
 split
 · exact (h.mono (Nat.le_succ n) (Nat.le_refl m)).out
 · rename_i hi _
   obtain ⟨a, rfl⟩ := Int.eq_ofNat_of_zero_le (show 0 ≤ id by omega)
   have := h.right.knowsIn a (by omega)
   rw [Int.toNat_natCast, zvx]
   exact h.knows _ _ _ (by omega) (zyl _ _ this.1 this.2)
theorem Gd.hideEv {L n m : Nat} {d : List Int} {E : Em} (h : Gd L n m d E) (id p : Int) : Out L (n + 1) m d (E.dos (hideEv E.now id p)) := by
 unfold Go.Proofs.YthfalocligkamaaGreatDoor.hideEv
 split
 · exact (h.mono (Nat.le_succ n) (Nat.le_refl m)).out
 split
 · exact (h.mono (Nat.le_succ n) (Nat.le_refl m)).out
 · rename_i hi _
   obtain ⟨a, rfl⟩ := Int.eq_ofNat_of_zero_le (show 0 ≤ id by omega)
   have := h.right.knowsIn a (by omega)
   rw [Int.toNat_natCast, zvx]
   exact h.knows _ _ _ (by omega) (zwp _ _ this.1 this.2)
theorem z0n {a z c e : Int} (h : evCheck [1, a, z, c, z, e] = 0) : 0 ≤ a ∧ 0 ≤ z ∧ z < 11 ∧ 0 ≤ c ∧ 0 ≤ e := by
 unfold evCheck zce zbr zcu inR zcv inB at h
 simp only [gt, List.getD_cons_zero, List.getD_cons_succ] at h
 simp at h
 omega
theorem Gd.shufAt {L n m : Nat} {d : List Int} {E : Em} (h : Gd L n m d E) (z : Nat) (id at' : Int) : Out L (n + 1) m d (E.shufAt z id at') := by
 unfold Em.shufAt
 split
 · exact (h.mono (Nat.le_succ n) (Nat.le_refl m)).out
 · refine h.do1 _ (fun S hS => ?_)
   generalize idxL (E.now.list z) id = c at hS
   obtain ⟨c1, c2, c3, c4, c5⟩ := z0n (zb1 hS)
   obtain ⟨a, rfl⟩ := Int.eq_ofNat_of_zero_le c1
   obtain ⟨c, rfl⟩ := Int.eq_ofNat_of_zero_le c4
   obtain ⟨e, rfl⟩ := Int.eq_ofNat_of_zero_le c5
   have hz : z < 11 := by omega
   rw [zmy _ _ _ _ _ _ hz hz] at hS
   unfold zhx at hS
   split at hS
   · cases hS
   split at hS
   · cases hS
   split at hS
   · cases hS
   rename_i hA hC hE
   cases hS
   have hC : c < (E.now.list z).length ∧ gt (E.now.list z) c = a := Decidable.of_not_not hC
   have ha : a < E.now.objs.length := by omega
   obtain ⟨_, _, p3, p4⟩ := h.right.zon.ok z hz _ (z5e _ _ hC.1)
   rw [hC.2, Int.toNat_natCast] at p3 p4
   have hset : (rowAt E.now.objs a).set 3 (z : Int) = rowAt E.now.objs a := by rw [← p3]; exact zyh _ _
   refine ⟨h.right.moved h.wid a z c z e ha hz hz hC.1 hC.2 (by omega) p4 (by rw [hset]; exact h.right.formed a ha), zw4 h.wid a z c z e ha, by simp only [zbt, List.length_set]; exact h.len⟩
theorem zlb {E : Em} (h : E.err ≠ 0) (z : Nat) (id at' : Int) : (E.shufAt z id at').err ≠ 0 := by
 unfold Em.shufAt
 split
 · exact h
 · exact z6s h _
theorem Out.shufTo {L n m : Nat} {d : List Int} {E : Em} (h : Out L n m d E) (z : Nat) (l : List Int) : ∀ k, Out L (n + k) m d (E.shufTo z l k)
 | 0 => h
 | k + 1 => by
   rcases Out.shufTo h z l k with h1 | h1
   · exact Or.inl (zlb h1 _ _ _)
   · exact h1.shufAt _ _ _
theorem Out.hideTo {L n m : Nat} {d : List Int} {E : Em} (h : Out L n m d E) (l : List Int) : ∀ k, Out L (n + k) m d (E.hideTo l k)
 | 0 => h
 | k + 1 => by
   rcases Out.hideTo h l k with h1 | h1
   · refine Or.inl ?_
     show ((E.hideTo l k).dos _).err ≠ 0
     rw [zi8 h1]; exact h1
   · exact h1.hideEv _ _
theorem zqy (d : List Int) (c : Int) (n : Nat) : (ordR d c n).1.length ≤ n := by
 unfold ordR
 (repeat' split) <;> first | (exact Nat.zero_le _) | (show (zun _ _ _ _).length ≤ n; rw [zis]; exact Nat.le_refl _)
theorem z2s (d : List Int) (c : Int) (n : Nat) : (ordR d c n).2.2 ≠ 0 ∨ (0 ≤ (ordR d c n).2.1 ∧ (ordR d c n).2.1 ≤ 4096) ∨ (ordR d c n).2.1 = c := by
 unfold ordR
 (repeat' split)
 · exact Or.inl (by show (19 : Int) ≠ 0; decide)
 · exact Or.inl (by show (1 : Int) ≠ 0; decide)
 · exact Or.inl (by show (13 : Int) ≠ 0; decide)
 · refine Or.inr ?_
   show (0 ≤ c + (max (n : Int) 1 - 1) ∧ c + (max (n : Int) 1 - 1) ≤ 4096) ∨ c + (max (n : Int) 1 - 1) = c
   omega
theorem Gd.shuf0 {L n m : Nat} {d : List Int} {E : Em} (h : Gd L n m d E) (p : Nat) : Out L (n + 1) m d (E.shuf0 p) := by
 unfold Em.shuf0
 have hc := z2s E.draws (E.now.num 23) (E.now.list p).length
 generalize ordR E.draws (E.now.num 23) (E.now.list p).length = r at *
 by_cases e : r.2.2 = 0
 · rw [e, Em.fail0 h.err]
   have h0 := h.right.gm 5 (by decide)
   have h0' : 0 ≤ E.now.num 23 ∧ E.now.num 23 ≤ 4096 := h0
   refine h.setGm 5 (by decide) _ ?_
   simp [inB, gmBounds, gt]
   omega
 · refine Or.inl ?_
   have : (E.fail r.2.2).err ≠ 0 := by unfold Em.fail; rw [if_pos h.err]; exact e
   unfold Em.setGame
   rw [if_pos this]; exact this
theorem zn6 {E : Em} (h : Right E.now) (p : Nat) (hp : p < 11) : (E.shufD p).length ≤ 400 := by
 unfold Em.shufD zj8
 rw [List.length_map]
 exact Nat.le_trans (zqy _ _ _) (h.smallN.list p hp)
theorem Gd.shuffle {L n m : Nat} {d : List Int} {E : Em} (h : Gd L n m d E) (p : Int) : Out L (n + 801) m d (E.shuffle p) := by
 unfold Em.shuffle
 rw [if_neg (by rw [h.err]; simp)]
 split
 · exact Or.inl (by show (1 : Int) ≠ 0; decide)
 split
 · rename_i hb; exact Or.inl hb
 · have hl := zn6 h.right p.toNat (by omega)
   exact (((h.shuf0 p.toNat).shufTo p.toNat (E.shufD p.toNat) (E.shufD p.toNat).length).hideTo (E.shufD p.toNat) (E.shufD p.toNat).length).mono (by omega) (Nat.le_refl m)
end Go.Proofs.YthfalocligkamaaGreatDoor
