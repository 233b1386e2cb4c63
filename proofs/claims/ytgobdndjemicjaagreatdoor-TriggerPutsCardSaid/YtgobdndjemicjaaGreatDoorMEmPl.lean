/- The walks of an emitter's Player and Life. -/
import Derived.Test.YtgobdndjemicjaaGreatDoorMEm
import Derived.Test.YtgobdndjemicjaaGreatDoorMIs19
namespace Go.Proofs.YtgobdndjemicjaaGreatDoor
open Go Go.RowKit Go.Shelf
@[go_sem] theorem z0j (w : World) (a f : Int) : (za2 122 #[(0, .int .i64 3), (1, .int .i64 a), (2, .int .i64 f)]).run Tryz.prog w = .ok (.value (.agg (cellsOf [3, a, f, 0, 0, 0]))) w := by kernel_rfl
end Go.Proofs.YtgobdndjemicjaaGreatDoor
namespace Go.Proofs.YtgobdndjemicjaaGreatDoor
open Go Go.RowKit Go.Shelf
theorem zff (a f : Nat) (u v : Int) (hf : f < 18) (h3 : f ≠ 3) (hv : -1073741824 ≤ v ∧ v ≤ 1073741824) : evCheck [2, (a : Int), (f : Int), u, v, 0] = 0 := by
 have hf2 : ¬ (f : Int) = 3 := by omega
 unfold evCheck zbx za5 zcf inR zcg inB
 simp only [gt, List.getD_cons_zero, List.getD_cons_succ]
 simp
 omega
theorem zw6 {E : Em} (h : E.err = 0) : E.fail 0 = E := by unfold Em.fail; rw [if_pos h, ← h]
theorem zlz (E : Em) (a f : Nat) (v : Int) (ha : a < E.now.objs.length) (hf : f < 18) (h3 : f ≠ 3) (hv : -1073741824 ≤ v ∧ v ≤ 1073741824) :
 E.setObj a f v = if E.err ≠ 0 then E else if gt (rowAt E.now.objs a) f = v then E else E.do1 [2, (a : Int), (f : Int), gt (rowAt E.now.objs a) f, v, 0] := by
 unfold Em.setObj
 by_cases he : E.err = 0
 · have hne : ¬ E.err ≠ 0 := by rw [he]; simp
   have hno : ¬ (evCheck [2, (a : Int), (f : Int), 0, 0, 0] ≠ 0 ∨ (E.now.objs.length : Int) ≤ (a : Int)) := by rw [zff a f 0 0 hf h3 (by omega)]; simp; omega
   rw [if_neg hne, if_neg hne, if_neg hno]
   unfold Em.set
   rw [Int.toNat_natCast, Int.toNat_natCast]
   by_cases hx : gt (rowAt E.now.objs a) f = v
   · rw [if_pos hx, if_pos hx]
     show E.fail (evCheck [2, (a : Int), (f : Int), gt (rowAt E.now.objs a) f, v, 0]) = E
     rw [zff a f _ v hf h3 hv, zw6 he]
   · rw [if_neg hx, if_neg hx]; rfl
 · rw [if_pos he, if_pos he]
theorem yba {E : Em} (he : E.err = 0) (hev : E.evs.length < 65536) {e : List Int} {S : St} (hd : zd5 E.now e = .ok S) : E.do1 e = { E with now := S, evs := E.evs ++ [e] } := by
 unfold Em.do1
 rw [if_neg (by rw [he]; simp), hd]
 exact if_pos hev
theorem z1r (S : St) (a f : Nat) (v : Int) (ha : a < S.objs.length) (hf : f < 18) (h3 : f ≠ 3) (hv : -1073741824 ≤ v ∧ v ≤ 1073741824) : zd5 S [2, (a : Int), (f : Int), gt (rowAt S.objs a) f, v, 0] = .ok (S.setObj a f v) := by
 unfold zd5
 rw [zff a f _ v hf h3 hv, if_neg (by simp)]
 simp only [gt, List.getD_cons_zero, List.getD_cons_succ]
 rw [if_neg (by decide), if_neg (by decide), if_neg (by decide), if_pos trivial, if_neg (by omega), Int.toNat_natCast, Int.toNat_natCast]
 exact if_neg (fun h => h rfl)
theorem Right.onField {S : St} (h : Right S) (hw : ∀ i, i < S.objs.length → (rowAt S.objs i).length = 18) (a f : Nat) (v : Int) (ha : a < S.objs.length) (h8 : gt (rowAt S.objs a) 3 = 8) (hf : 4 ≤ f ∧ f ≤ 12) (hv : gt (zaj S.objs.length) (f * 2) ≤ v ∧ v ≤ gt (zaj S.objs.length) (f * 2 + 1)) : Right (S.setObj a f v) := by
 have hl := zb6 S a f v
 have hr := fun i => zck S a f i v ha
 have hn : ∀ g, g ≠ f → gt ((rowAt S.objs a).set f v) g = gt (rowAt S.objs a) g := fun g hg => by rw [zez _ _ _ _ (by rw [hw a ha]; omega), if_neg (Ne.symm hg)]
 have g3 : ∀ i, gt (rowAt (S.setObj a f v).objs i) 3 = gt (rowAt S.objs i) 3 := fun i => by
  rw [hr]; split
  · rename_i e; subst e; exact hn 3 (by omega)
  · rfl
 have gs : ∀ i z, zbh (rowAt (S.setObj a f v).objs i) z = zbh (rowAt S.objs i) z := fun i z => by
  rw [hr]; split
  · rename_i e; subst e; unfold zbh; rw [hn 1 (by omega), hn 13 (by omega)]
  · rfl
 refine ⟨by rw [hl]; exact h.many, zfn h.ranges hw _ a f v ha (by omega) rfl rfl (by simp [inB]; exact hv), ⟨fun z hz x hx => ?_, fun id hid => ?_⟩, fun i hi => ?_⟩
 · obtain ⟨p, q, r, s⟩ := h.zon.ok z hz x hx
   exact ⟨p, by rw [hl]; exact q, by rw [g3]; exact r, by rw [gs]; exact s⟩
 · exact h.zon.once id (by rw [hl] at hid; exact hid)
 · rw [hr]; split
   · rename_i e; subst e
     have h1 := h.formed a ha
     unfold zbj at h1 ⊢
     rw [hn 3 (by omega), h8, hn 16 (by omega)]
     rw [h8] at h1
     simp at h1 ⊢
     exact h1
   · exact h.formed i (by rw [hl] at hi; exact hi)
structure Fi (S0 : St) (n : Nat) (E : Em) : Prop where
 err : E.err = 0
 right : Right E.now
 wid : ∀ i, i < E.now.objs.length → (rowAt E.now.objs i).length = 18
 len : E.now.objs.length = S0.objs.length
 list : E.now.list = S0.list
 zone : ∀ i, gt (rowAt E.now.objs i) 3 = gt (rowAt S0.objs i) 3
 evs : E.evs.length ≤ n
 pend : E.pend = []
theorem Fi.ok {S0 : St} {n : Nat} {E : Em} (h : Fi S0 n E) (hn : n ≤ 65536) : EmOk E 65536 := ⟨h.right.smallN.mono (by omega), by have := h.evs; omega, by rw [h.pend]; simp⟩
theorem Fi.small {S0 : St} {n : Nat} {E : Em} (h : Fi S0 n E) : Small E.now := h.right.smallN.small (by omega)
theorem Fi.mono {S0 : St} {n m : Nat} {E : Em} (h : Fi S0 n E) (hm : n ≤ m) : Fi S0 m E := ⟨h.err, h.right, h.wid, h.len, h.list, h.zone, Nat.le_trans h.evs hm, h.pend⟩
theorem Fi.set {S0 : St} {n : Nat} {E : Em} (h : Fi S0 n E) (hn : n < 65536) (a f : Nat) (v : Int) (ha : a < S0.objs.length) (h8 : gt (rowAt S0.objs a) 3 = 8) (hf : 4 ≤ f ∧ f ≤ 12) (hv : gt (zaj S0.objs.length) (f * 2) ≤ v ∧ v ≤ gt (zaj S0.objs.length) (f * 2 + 1)) (hb : -1073741824 ≤ v ∧ v ≤ 1073741824) :
 Fi S0 (n + 1) (E.setObj a f v) ∧ (∀ i g, gt (rowAt (E.setObj a f v).now.objs i) g = if i = a ∧ g = f then v else gt (rowAt E.now.objs i) g) ∧ (E.setObj a f v).now.num = E.now.num := by
 have ha2 : a < E.now.objs.length := by rw [h.len]; exact ha
 have h82 : gt (rowAt E.now.objs a) 3 = 8 := by rw [h.zone]; exact h8
 rw [zlz E a f v ha2 (by omega) (by omega) hb, if_neg (by rw [h.err]; simp)]
 by_cases hx : gt (rowAt E.now.objs a) f = v
 · rw [if_pos hx]
   refine ⟨h.mono (by omega), fun i g => ?_, rfl⟩
   split
   · rename_i e; obtain ⟨rfl, rfl⟩ := e; exact hx
   · rfl
 · rw [if_neg hx, yba h.err (by have := h.evs; omega) (z1r E.now a f v ha2 (by omega) (by omega) hb)]
   have hr := fun i => zck E.now a f i v ha2
   have hg : ∀ i g, gt (rowAt (E.now.setObj a f v).objs i) g = if i = a ∧ g = f then v else gt (rowAt E.now.objs i) g := fun i g => by
    rw [hr]
    by_cases e : a = i
    · subst e
      rw [if_pos rfl, zez _ _ _ _ (by rw [h.wid a ha2]; omega)]
      by_cases e2 : f = g
      · subst e2; rw [if_pos rfl, if_pos ⟨rfl, rfl⟩]
      · rw [if_neg e2, if_neg (fun x => e2 x.2.symm)]
    · rw [if_neg e, if_neg (fun x => e x.1.symm)]
   refine ⟨⟨h.err, h.right.onField h.wid a f v ha2 h82 hf (by rw [h.len]; exact hv), zi1 h.wid a f v ha2, by rw [show ({ E with now := E.now.setObj a f v, evs := E.evs ++ [[2, (a : Int), (f : Int), gt (rowAt E.now.objs a) f, v, 0]] } : Em).now = E.now.setObj a f v from rfl, zb6]; exact h.len, h.list, fun i => ?_, ?_, h.pend⟩, hg, rfl⟩
   · show gt (rowAt (E.now.setObj a f v).objs i) 3 = _
     rw [hg, if_neg (by omega)]; exact h.zone i
   · simp only [List.length_append, List.length_singleton]; have := h.evs; omega
end Go.Proofs.YtgobdndjemicjaaGreatDoor
