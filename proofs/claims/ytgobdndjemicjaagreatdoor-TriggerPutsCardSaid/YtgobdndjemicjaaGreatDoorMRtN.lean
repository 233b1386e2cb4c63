/- A right state stays right behind an emitter's acts: the plain law. -/
import Derived.Test.YtgobdndjemicjaaGreatDoorMPutN
namespace Go.Proofs.YtgobdndjemicjaaGreatDoor
open Go Go.RowKit Go.Shelf
theorem Right.setNum {S : St} (h : Right S) (q : Nat) (v : Int) (hp : ∀ p f, p < 2 → f < 9 → q = p * 9 + f → inB v (gt plBounds (f * 2)) (gt plBounds (f * 2 + 1)) = true) (hg : ∀ f, f < 7 → q = 18 + f → inB v (gt gmBounds (f * 2)) (gt gmBounds (f * 2 + 1)) = true) : Right (S.setNum q v) := by
 refine ⟨h.many, (zap _).2 ⟨((zap S).1 h.ranges).1, ?_, ?_⟩, ⟨h.zon.ok, h.zon.once⟩, h.formed⟩
 · have := ((zap S).1 h.ranges).2.1
   unfold zft zed at *
   rw [List.all_eq_true] at *
   intro i hi
   have h4 := this i hi
   rw [List.all_eq_true] at *
   intro f hf
   have h5 := h4 f hf
   have hi2 := List.mem_range.1 hi
   have hf2 := List.mem_range.1 hf
   rw [zcz _ _ _ _ hf2] at h5 ⊢
   show inB (upd S.num q v (i * 9 + f)) _ _ = true
   by_cases e : q = i * 9 + f
   · rw [e, zan]; exact hp i f hi2 hf2 e
   · rw [zbc _ _ _ _ (by omega)]; exact h5
 · have := ((zap S).1 h.ranges).2.2
   unfold zed at *
   rw [List.all_eq_true] at *
   intro f hf
   have h5 := this f hf
   have hf2 := List.mem_range.1 hf
   rw [zcz _ _ _ _ hf2] at h5 ⊢
   show inB (upd S.num q v (18 + f)) _ _ = true
   by_cases e : q = 18 + f
   · rw [e, zan]; exact hg f hf2 e
   · rw [zbc _ _ _ _ (by omega)]; exact h5
theorem Right.pl {S : St} (h : Right S) (p f : Nat) (hp : p < 2) (hf : f < 9) : gt plBounds (f * 2) ≤ S.num (p * 9 + f) ∧ S.num (p * 9 + f) ≤ gt plBounds (f * 2 + 1) := by
 have := ((zap S).1 h.ranges).2.1
 unfold zft zed at this
 rw [List.all_eq_true] at this
 have h4 := this p (List.mem_range.2 hp)
 rw [List.all_eq_true] at h4
 have h5 := h4 f (List.mem_range.2 hf)
 rw [zcz _ _ _ _ hf] at h5
 simpa [inB] using h5
theorem Right.gm {S : St} (h : Right S) (f : Nat) (hf : f < 7) : gt gmBounds (f * 2) ≤ S.num (18 + f) ∧ S.num (18 + f) ≤ gt gmBounds (f * 2 + 1) := by
 have := ((zap S).1 h.ranges).2.2
 unfold zed at this
 rw [List.all_eq_true] at this
 have h5 := this f (List.mem_range.2 hf)
 rw [zcz _ _ _ _ hf] at h5
 simpa [inB] using h5
theorem zdi {S T : St} {e : List Int} (h : zd5 S e = .ok T) : evCheck e = 0 := by
 unfold zd5 at h
 by_cases c : evCheck e = 0
 · exact c
 · rw [if_pos c] at h; cases h
theorem z7k {S T : St} {f u v : Int} (h : zd5 S [4, 0, f, u, v, 0] = .ok T) : T = S.setNum (18 + f.toNat) v := by
 have hc := zdi h
 unfold zd5 at h
 rw [if_neg (by rw [hc]; simp)] at h
 have g0 : gt [4, 0, f, u, v, 0] 0 = 4 := rfl
 have g2 : gt [4, 0, f, u, v, 0] 2 = f := rfl
 have g4 : gt [4, 0, f, u, v, 0] 4 = v := rfl
 rw [g0, g2, g4] at h
 simp at h
 split at h
 · cases h; rfl
 · cases h
theorem zgr {S T : St} {a f u v : Int} (h : zd5 S [2, a, f, u, v, 0] = .ok T) : (a < S.objs.length) ∧ T = S.setObj a.toNat f.toNat v := by
 have hc := zdi h
 unfold zd5 at h
 rw [if_neg (by rw [hc]; simp)] at h
 have g0 : gt [2, a, f, u, v, 0] 0 = 2 := rfl
 have g1 : gt [2, a, f, u, v, 0] 1 = a := rfl
 have g2 : gt [2, a, f, u, v, 0] 2 = f := rfl
 have g4 : gt [2, a, f, u, v, 0] 4 = v := rfl
 rw [g0, g1, g2, g4] at h
 simp only [reduceIte, show ¬ (2 : Int) = 0 by decide, show ¬ (2 : Int) = 5 by decide, show ¬ (2 : Int) = 1 by decide] at h
 split at h
 · cases h
 · split at h
   · cases h
   · rename_i hl _
     cases h
     exact ⟨by omega, rfl⟩
theorem zte {c o k : Int} (h : evCheck [0, c, o, k, 0, 0] = 0) : 0 ≤ c ∧ c < 120 ∧ 0 ≤ o ∧ o < 2 ∧ 0 ≤ k ∧ k < 3 := by
 unfold evCheck zbx za5 zcf inR zcg inB at h
 simp only [gt, List.getD_cons_zero, List.getD_cons_succ] at h
 simp at h
 omega
theorem zkc {S T : St} {c o k : Int} (h : zd5 S [0, c, o, k, 0, 0] = .ok T) : S.objs.length < 400 ∧ T = { S with objs := S.objs ++ [[c, o, o, 10, 0, 0, 0, 0, 0, 0, 0, 0, 0, k, 0, 0, 0, 3]], list := upd S.list 10 (S.list 10 ++ [(S.objs.length : Int)]) } := by
 have hc := zdi h
 unfold zd5 at h
 rw [if_neg (by rw [hc]; simp)] at h
 have g0 : gt [0, c, o, k, 0, 0] 0 = 0 := rfl
 rw [g0, if_pos rfl] at h
 unfold zfg at h
 split at h
 · cases h
 · rename_i hl
   cases h
   exact ⟨by omega, rfl⟩
theorem zeu (l : List (List Int)) (r : List Int) (i : Nat) : rowAt (l ++ [r]) i = if i < l.length then rowAt l i else if i = l.length then r else [] := by
 unfold rowAt List.getD
 by_cases h : i < l.length
 · rw [if_pos h, List.getElem?_append_left h]
 · rw [if_neg h, List.getElem?_append_right (by omega)]
   by_cases e : i = l.length
   · rw [if_pos e, e, Nat.sub_self]; rfl
   · rw [if_neg e, List.getElem?_eq_none (by simp; omega)]; rfl
theorem zpm (n : Int) (o : List Int) (h : zed (zaj n) o 18 = true) : zed (zaj (n + 1)) o 18 = true := by
 unfold zed at *
 rw [List.all_eq_true] at *
 intro f hf
 have h5 := h f hf
 have hf2 := List.mem_range.1 hf
 have key : gt (zaj (n + 1)) (f * 2) = gt (zaj n) (f * 2) ∧ gt (zaj n) (f * 2 + 1) ≤ gt (zaj (n + 1)) (f * 2 + 1) := by
  have : f = 0 ∨ f = 1 ∨ f = 2 ∨ f = 3 ∨ f = 4 ∨ f = 5 ∨ f = 6 ∨ f = 7 ∨ f = 8 ∨ f = 9 ∨ f = 10 ∨ f = 11 ∨ f = 12 ∨ f = 13 ∨ f = 14 ∨ f = 15 ∨ f = 16 ∨ f = 17 := by omega
  rcases this with rfl | rfl | rfl | rfl | rfl | rfl | rfl | rfl | rfl | rfl | rfl | rfl | rfl | rfl | rfl | rfl | rfl | rfl <;> exact ⟨rfl, by simp [gt, zaj]; try omega⟩
 unfold inB at *
 rw [key.1]
 simp at h5 ⊢
 omega
theorem z7j (S : St) (x y : Int) (o : List (List Int)) (k : Nat) (hk : k ≤ 11) : zc0 { S with objs := o, list := upd S.list 10 (S.list 10 ++ [y]) } x k = zc0 S x k + (if k = 11 ∧ x = y then 1 else 0) := by
 induction k with
 | zero => simp [zc0]
 | succ k ih =>
   rw [zb9, zb9, ih (by omega)]
   show _ + List.count x (upd S.list 10 (S.list 10 ++ [y]) k) = _
   by_cases e : k = 10
   · subst e
     rw [zan, List.count_append, if_neg (by omega)]
     by_cases e2 : x = y
     · subst e2; rw [if_pos ⟨rfl, rfl⟩]; simp; omega
     · rw [if_neg (by omega)]; simp [Ne.symm e2]
   · rw [zbc _ _ _ _ (by omega), if_neg (by omega), if_neg (by omega)]; omega
theorem Right.make {S : St} (h : Right S) {c o k : Int} (hn : S.objs.length < 400) (hc : 0 ≤ c ∧ c < 120 ∧ 0 ≤ o ∧ o < 2 ∧ 0 ≤ k ∧ k < 3) :
 Right { S with objs := S.objs ++ [[c, o, o, 10, 0, 0, 0, 0, 0, 0, 0, 0, 0, k, 0, 0, 0, 3]], list := upd S.list 10 (S.list 10 ++ [(S.objs.length : Int)]) } := by
 generalize hr : ([c, o, o, 10, 0, 0, 0, 0, 0, 0, 0, 0, 0, k, 0, 0, 0, 3] : List Int) = r
 have hl : (S.objs ++ [r]).length = S.objs.length + 1 := by simp
 have hrow : ∀ i, i < S.objs.length → rowAt (S.objs ++ [r]) i = rowAt S.objs i := fun i hi => by rw [zeu, if_pos hi]
 have hlast : rowAt (S.objs ++ [r]) S.objs.length = r := by rw [zeu, if_neg (by omega), if_pos rfl]
 have hmem : ∀ z, z < 11 → ∀ x ∈ S.list z, x ≠ (S.objs.length : Int) := fun z hz x hx e => by
  obtain ⟨p, q, _, _⟩ := h.zon.ok z hz x hx
  omega
 refine ⟨by show (S.objs ++ [r]).length ≤ 400; omega, (zap _).2 ⟨fun i hi => ?_, ?_, ?_⟩, ⟨fun z hz x hx => ?_, fun id hid => ?_⟩, fun i hi => ?_⟩
 · show zed (zaj ((S.objs ++ [r]).length : Int)) (rowAt (S.objs ++ [r]) i) 18 = true
   have hi : i < (S.objs ++ [r]).length := hi
   rw [hl] at hi
   rw [hl]
   by_cases e : i < S.objs.length
   · rw [hrow i e, show ((S.objs.length + 1 : Nat) : Int) = (S.objs.length : Int) + 1 by omega]
     exact zpm _ _ (h.row e)
   · rw [show i = S.objs.length by omega, hlast, ← hr]
     unfold zed
     rw [List.all_eq_true]
     intro f hf
     have hf2 := List.mem_range.1 hf
     have : f = 0 ∨ f = 1 ∨ f = 2 ∨ f = 3 ∨ f = 4 ∨ f = 5 ∨ f = 6 ∨ f = 7 ∨ f = 8 ∨ f = 9 ∨ f = 10 ∨ f = 11 ∨ f = 12 ∨ f = 13 ∨ f = 14 ∨ f = 15 ∨ f = 16 ∨ f = 17 := by omega
     rcases this with rfl | rfl | rfl | rfl | rfl | rfl | rfl | rfl | rfl | rfl | rfl | rfl | rfl | rfl | rfl | rfl | rfl | rfl <;> simp [gt, zaj, inB] <;> omega
 · exact ((zap S).1 h.ranges).2.1
 · exact ((zap S).1 h.ranges).2.2
 · have hx : x ∈ upd S.list 10 (S.list 10 ++ [(S.objs.length : Int)]) z := hx
   have old : x ∈ S.list z → z5m { S with objs := S.objs ++ [r], list := upd S.list 10 (S.list 10 ++ [(S.objs.length : Int)]) } z x := fun hx => by
    obtain ⟨p, q, s, t⟩ := h.zon.ok z hz x hx
    refine ⟨p, by show x < ((S.objs ++ [r]).length : Int); omega, ?_, ?_⟩
    · show gt (rowAt (S.objs ++ [r]) x.toNat) 3 = z
      rw [hrow _ (by omega)]; exact s
    · show zbh (rowAt (S.objs ++ [r]) x.toNat) z = true
      rw [hrow _ (by omega)]; exact t
   by_cases e : z = 10
   · subst e
     rw [zan, List.mem_append, List.mem_singleton] at hx
     rcases hx with hx | hx
     · exact old hx
     · subst hx
       refine ⟨by omega, by show _ < ((S.objs ++ [r]).length : Int); omega, ?_, ?_⟩
       · show gt (rowAt (S.objs ++ [r]) (S.objs.length : Int).toNat) 3 = (10 : Nat)
         rw [Int.toNat_natCast, hlast, ← hr]; rfl
       · show zbh (rowAt (S.objs ++ [r]) (S.objs.length : Int).toNat) (10 : Nat) = true
         rw [Int.toNat_natCast, hlast]; rfl
   · rw [zbc _ _ _ _ (by omega)] at hx
     exact old hx
 · have hid : id < (S.objs ++ [r]).length := hid
   rw [hl] at hid
   rw [z7j _ _ _ _ _ (by omega)]
   by_cases e : id < S.objs.length
   · rw [h.zon.once id e, if_neg (by omega)]
   · rw [if_pos (by omega)]
     have : ∀ k, k ≤ 11 → zc0 S (id : Int) k = 0 := fun k => by
      induction k with
      | zero => intro _; simp [zc0]
      | succ k ih =>
        intro hk
        rw [zb9, ih (by omega), List.count_eq_zero_of_not_mem (fun hm => hmem k (by omega) _ hm (by omega))]
     rw [this 11 (by omega)]
 · have hi : i < (S.objs ++ [r]).length := hi
   rw [hl] at hi
   show zbj (rowAt (S.objs ++ [r]) i) = true
   by_cases e : i < S.objs.length
   · rw [hrow i e]; exact h.formed i e
   · rw [show i = S.objs.length by omega, hlast, ← hr]
     simp [zbj, gt, restingL]
     exact ⟨rfl, rfl, rfl, rfl, rfl, rfl, rfl, rfl, rfl⟩
end Go.Proofs.YtgobdndjemicjaaGreatDoor
