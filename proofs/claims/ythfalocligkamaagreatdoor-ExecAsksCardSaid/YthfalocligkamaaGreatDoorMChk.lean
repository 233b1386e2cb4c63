/- The rounds of what follows of itself, as plain functions; rounds of a right state. -/
import Derived.Test.YthfalocligkamaaGreatDoorMPutN
import Derived.Test.YthfalocligkamaaGreatDoorMEval
import Derived.Test.YthfalocligkamaaGreatDoorMIs19
namespace Go.Proofs.YthfalocligkamaaGreatDoor
open Go Go.RowKit Go.Shelf
def z2k (S : St) (p : Int) : Bool := (p == 0 || p == 1) && (decide (S.num (p.toNat * 9) ≤ 0) || S.num (p.toNat * 9 + 8) == 1)
def dieB (S : St) (id : Int) : Bool := zam S id && decide (wrap64 (gt (shapeN S id.toNat) 1 - gt (rowAt S.objs id.toNat) 6) ≤ 0)
def zf8 (S : St) : List Int := if checkN S = 0 then (S.list 8).filter (dieB S) else []
def zjt (S : St) : Int := if z2k S 0 = true ∧ z2k S 1 = true then 3 else if z2k S 0 = true then 2 else if z2k S 1 = true then 1 else 0
def ycu (S : St) : Bool := S.num 24 != 0 || (zjt S == 0 && (zf8 S).length == 0)
def Em.puts (E : Em) (l : List Int) : Em := l.foldl (fun E id => E.put id 4) E
def Em.round (E : Em) : Em := if zjt E.now ≠ 0 then E.setGame 6 (zjt E.now) else E.puts (zf8 E.now)
theorem znf (l : List Int) (k : Nat) (y : Int) (hy : y ∈ l) : y = gt l k ∨ y ∈ l.eraseIdx k := by
 induction l generalizing k with
 | nil => cases hy
 | cons z l ih =>
   cases k with
   | zero =>
     rcases List.mem_cons.1 hy with h | h
     · exact Or.inl h
     · exact Or.inr h
   | succ k =>
     rw [List.eraseIdx_cons_succ, zfj]
     rcases List.mem_cons.1 hy with h | h
     · exact Or.inr (by rw [h]; exact List.mem_cons_self)
     · rcases ih k h with h | h
       · exact Or.inl h
       · exact Or.inr (List.mem_cons_of_mem _ h)
structure CkE (E : Em) : Prop where
 err : E.err = 0
 right : Right E.now
 wid : ∀ i, i < E.now.objs.length → (rowAt E.now.objs i).length = 18
 evs : E.evs.length + 14 * (E.now.list 8).length + 2 ≤ 65536
 pend : E.pend.length + 2 * (E.now.list 8).length ≤ 65536
structure PutsTo (E E' : Em) (n : Nat) : Prop where
 err : E'.err = 0
 right : Right E'.now
 wid : ∀ i, i < E'.now.objs.length → (rowAt E'.now.objs i).length = 18
 many : E'.now.objs.length = E.now.objs.length
 num : E'.now.num = E.now.num
 draws : E'.draws = E.draws
 evs : E'.evs.length ≤ E.evs.length + 14 * n
 pend : E'.pend.length ≤ E.pend.length + 2 * n
 list : (E'.now.list 8).length + n = (E.now.list 8).length
theorem znm : ∀ (l : List Int) (E : Em), E.err = 0 → Right E.now → (∀ i, i < E.now.objs.length → (rowAt E.now.objs i).length = 18) → l.Nodup → (∀ x ∈ l, x ∈ E.now.list 8) → E.evs.length + 14 * l.length ≤ 65536 → PutsTo E (E.puts l) l.length
 | [], E, he, hR, hw, _, _, _ => ⟨he, hR, hw, rfl, rfl, rfl, Nat.le_refl _, Nat.le_refl _, rfl⟩
 | x :: l, E, he, hR, hw, hn, hm, hev => by
   have hx := hm x (by simp)
   obtain ⟨h0, h1, h3, _⟩ := hR.zon.ok 8 (by omega) x hx
   obtain ⟨a, rfl⟩ := Int.eq_ofNat_of_zero_le h0
   rw [Int.toNat_natCast] at h3
   simp only [List.length_cons] at hev
   obtain ⟨z, c, d, hz, hz11, hcl, hca, hd, hd11, P⟩ := zq1 he hR hw a (by omega) 4 (by decide) (by omega)
   have hz8 : z = 8 := by rw [hz] at h3; omega
   subst hz8
   have hd8 : d ≠ 8 := fun e => by subst e; exact zkw _ hd
   have hl8 : (E.put a 4).now.list 8 = (E.now.list 8).eraseIdx c := by
    rw [P.list]
    show upd (upd E.now.list 8 _) d _ 8 = _
    rw [zco _ _ _ _ (Ne.symm hd8), zbo]
   have hml : (E.put a 4).now.objs.length = E.now.objs.length := by rw [P.objs]; simp
   have hw2 : ∀ i, i < (E.put a 4).now.objs.length → (rowAt (E.put a 4).now.objs i).length = 18 := fun i hi => by
    rw [P.objs, zb5 _ _ _ _ (by omega)]
    split
    · have := (RowFine.mk (hR.row (i := a) (by omega)) (hw a (by omega))).put d (by omega) (by omega)
      exact this.len
    · exact hw i (by omega)
   have hnd := List.nodup_cons.1 hn
   have ih := znm l (E.put a 4) P.err P.right hw2 hnd.2 (fun y hy => by
    rw [hl8]
    rcases znf (E.now.list 8) c y (hm y (by simp [hy])) with h | h
    · rw [hca] at h; subst h; exact absurd hy hnd.1
    · exact h) (by have := P.evs; omega)
   have hle := znb _ _ hcl
   have hlen : (E.now.list 8).length = ((E.put a 4).now.list 8).length + 1 := by rw [hl8, hle]; omega
   show PutsTo E ((E.put a 4).puts l) (l.length + 1)
   refine ⟨ih.err, ih.right, ih.wid, ih.many.trans hml, ih.num.trans P.num, ih.draws.trans P.draws, ?_, ?_, ?_⟩
   · have h1 := ih.evs; have h2 := P.evs; omega
   · have h1 := ih.pend; have h2 := P.pend; omega
   · have := ih.list; omega
theorem zvz (S : St) : ∀ x ∈ zf8 S, x ∈ S.list 8 := fun x hx => by
 unfold zf8 at hx
 split at hx
 · exact (List.mem_filter.1 hx).1
 · cases hx
theorem zox {S : St} (h : Right S) : (zf8 S).Nodup := by
 unfold zf8
 split
 · exact (h.zon.nodup (z := 8) (by omega)).sublist List.filter_sublist
 · exact List.nodup_nil
theorem zvy (S : St) : (zf8 S).length ≤ (S.list 8).length := by
 unfold zf8
 split
 · exact List.length_filter_le _ _
 · exact Nat.zero_le _
theorem CkE.round {E : Em} (h : CkE E) (hr : zjt E.now = 0) : PutsTo E E.round (zf8 E.now).length := by
 have h1 := zvy E.now
 have h2 := h.evs
 have := znm (zf8 E.now) E h.err h.right h.wid (zox h.right) (zvz _) (by omega)
 unfold Em.round
 rw [if_neg (by rw [hr]; simp)]
 exact this
theorem CkE.after {E : Em} (h : CkE E) (hr : zjt E.now = 0) : CkE E.round := by
 have P := h.round hr
 have := P.list; have := P.evs; have := P.pend; have := h.evs; have := h.pend
 exact ⟨P.err, P.right, P.wid, by omega, by omega⟩
structure RunTo (E E' : Em) : Prop where
 err : E'.err = 0
 right : Right E'.now
 wid : ∀ i, i < E'.now.objs.length → (rowAt E'.now.objs i).length = 18
 quiet : ycu E'.now = true
 many : E'.now.objs.length = E.now.objs.length
 evs : E'.evs.length + 14 * (E'.now.list 8).length ≤ E.evs.length + 14 * (E.now.list 8).length + 1
 pend : E'.pend.length + 2 * (E'.now.list 8).length ≤ E.pend.length + 2 * (E.now.list 8).length
end Go.Proofs.YthfalocligkamaaGreatDoor
namespace Go.Proofs.YthfalocligkamaaGreatDoor
open Go Go.RowKit Go.Shelf
@[go_sem] theorem yhq (V : SV) (num : Nat → Int) : sub (stA V num) 12 9 = cellsOf (zc7 num 0 9) := zhm V num 0 9 (by omega)
@[go_sem] theorem yhr (V : SV) (num : Nat → Int) : sub (stA V num) 21 9 = cellsOf (zc7 num 9 9) := zhm V num 9 9 (by omega)
end Go.Proofs.YthfalocligkamaaGreatDoor
namespace Go.Proofs.YthfalocligkamaaGreatDoor
open Go Go.RowKit Go.Shelf
end Go.Proofs.YthfalocligkamaaGreatDoor
