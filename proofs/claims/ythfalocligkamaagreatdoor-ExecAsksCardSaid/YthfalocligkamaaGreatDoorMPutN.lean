/- What an emitter's Put does, as plain functions; a right state stays right. -/
import Derived.Test.YthfalocligkamaaGreatDoorMEm
import Derived.Test.YthfalocligkamaaGreatDoorMUses
import Derived.Test.YthfalocligkamaaGreatDoorMKnow
namespace Go.Proofs.YthfalocligkamaaGreatDoor
open Go Go.RowKit Go.Shelf
def zkn (base p : Int) : Int := if (base = 0 ∨ base = 2 ∨ base = 4 ∨ base = 6) ∧ (p = 0 ∨ p = 1) then base + p else -1
def zfk (o : List Int) (base : Int) : Int :=
 let zone := if 0 ≤ zkn base (gt o 1) then zkn base (gt o 1) else base
 if (gt o 13 = 1 ∧ zone < 8) ∨ (gt o 13 = 2 ∧ zone ≠ 9) then 10 else zone
def zgv (base : Int) : Bool := base == 8 || base == 9 || base == 10 || decide (0 ≤ zkn base 0)
def zbx (z : Int) : Int := if z < 0 ∨ 11 ≤ z ∨ z = 0 ∨ z = 1 then 0 else if z = 2 then 1 else if z = 3 then 2 else 3
def Em.await (E : Em) (id wh ctl : Int) : Em :=
 if 0 ≤ gt (rowAt E.now.objs id.toNat) 0 ∧ gt (rowAt E.now.objs id.toNat) 0 < 120 then { E with pend := E.pend ++ (usesN (zcs (gt (rowAt E.now.objs id.toNat) 0).toNat).abs wh).map fun i => [id, i, ctl] } else E.fail 4
def Em.zero (E : Em) (id f : Int) : Em := E.setObj id f 0
def Em.rest (E : Em) (id : Int) : Em := restL.foldl (fun E f => E.setObj id f 0) E
def Em.put2 (E : Em) (id fr dz own : Int) : Em :=
 let E2 := if dz ≠ 8 then E.rest id else E
 let E3 := if dz < 8 then E2.setObj id 2 own else E2
 let E4 := if dz ≠ 9 then E3.setObj id 16 0 else E3
 let E5 := if dz = 8 ∧ fr ≠ dz then E4.setObj id 5 1 else E4
 E5.show id (zbx dz)
def Em.put3 (E : Em) (id fr dz base ctl : Int) : Em :=
 if E.err ≠ 0 then E
 else if dz = 8 ∧ fr ≠ dz then E.await id 2 (gt (rowAt E.now.objs id.toNat) 2)
 else if fr = 8 ∧ base = 4 then E.await id 3 ctl
 else E
def St.putEv (S : St) (id dz : Int) : List Int :=
 let fr := gt (rowAt S.objs id.toNat) 3
 [1, id, fr, idxL (S.list fr.toNat) id, dz, ((S.list dz.toNat).length : Int) - (if fr = dz then 1 else 0)]
def Em.put (E : Em) (id base : Int) : Em :=
 if E.err ≠ 0 then E
 else if ¬ (0 ≤ id ∧ id < E.now.objs.length) then { E with err := 4 }
 else if zgv base = false then { E with err := 12 }
 else
  let o := rowAt E.now.objs id.toNat
  let dz := zfk o base
  ((E.do1 (E.now.putEv id dz)).put2 id (gt o 3) dz (gt o 1)).put3 id (gt o 3) dz base (gt o 2)
theorem zww : ∀ (l : List Int) (x : Int) (i : Nat), x ∈ l → ∃ c, c < l.length ∧ Lib.idxFrom l x i = ((i + c : Nat) : Int) ∧ gt l c = x
 | [], x, i, h => by cases h
 | y :: l, x, i, h => by
   by_cases e : y = x
   · exact ⟨0, by simp, by simp [Lib.idxFrom, e], by rw [zid, e]⟩
   · have h2 : x ∈ l := by
      rcases List.mem_cons.1 h with h | h
      · exact absurd h.symm e
      · exact h
     obtain ⟨c, h3, h4, h5⟩ := zww l x (i + 1) h2
     exact ⟨c + 1, by simpa using h3, by rw [Lib.idxFrom, if_neg e, h4]; congr 1; omega, by rw [zfj, h5]⟩
theorem Zon.idx {S : St} (h : Zon S) (a : Nat) (ha : a < S.objs.length) : ∃ z c : Nat, gt (rowAt S.objs a) 3 = z ∧ z < 11 ∧ idxL (S.list z) a = c ∧ c < (S.list z).length ∧ gt (S.list z) c = a := by
 have h1 := h.once a ha
 have hex : ∃ z, z < 11 ∧ (a : Int) ∈ S.list z := by
  have : ∀ k, 0 < zcg S (a : Int) k → ∃ z, z < k ∧ (a : Int) ∈ S.list z := fun k => by
   induction k with
   | zero => intro h; simp [zcg] at h
   | succ k ih =>
     intro h
     rw [zb0] at h
     by_cases e : 0 < zcg S (a : Int) k
     · obtain ⟨z, hz, hm⟩ := ih e
       exact ⟨z, by omega, hm⟩
     · exact ⟨k, by omega, List.count_pos_iff.1 (by omega)⟩
  exact this 11 (by omega)
 obtain ⟨z, hz, hm⟩ := hex
 obtain ⟨c, h2, h3, h4⟩ := zww _ _ 0 hm
 refine ⟨z, c, ?_, hz, ?_, h2, h4⟩
 · have := (h.ok z hz _ hm).2.2.1
   rwa [Int.toNat_natCast] at this
 · show Lib.idxFrom _ _ 0 = _
   rw [h3, Nat.zero_add]
theorem zfg (a f : Nat) (u v : Int) (hf : f < 18) (hf3 : f ≠ 3) (hv : -1073741824 ≤ v ∧ v ≤ 1073741824) : evCheck [2, (a : Int), (f : Int), u, v, 0] = 0 := by
 unfold evCheck zce zbr zcu inR zcv inB
 simp only [gt, List.getD_cons_zero, List.getD_cons_succ]
 simp
 omega
theorem Em.fail0 {E : Em} (h : E.err = 0) : E.fail 0 = E := by
 unfold Em.fail
 rw [if_pos h]
 cases E
 simp at h ⊢
 exact h.symm
structure EmAt (E0 : Em) (S : St) (a : Nat) (r : List Int) (n : Nat) (E : Em) : Prop where
 err : E.err = 0
 now : E.now = { S with objs := S.objs.set a r }
 draws : E.draws = E0.draws
 pend : E.pend = E0.pend
 evs : E.evs.length ≤ n
 len : r.length = 18
theorem EmAt.set {E0 E : Em} {S : St} {a n : Nat} {r : List Int} (h : EmAt E0 S a r n E) (ha : a < S.objs.length) (f : Nat) (v : Int) (hf : f < 18) (hf3 : f ≠ 3) (hv : -1073741824 ≤ v ∧ v ≤ 1073741824) (hn : n < 65536) :
 EmAt E0 S a (r.set f v) (n + 1) (E.setObj a f v) := by
 have hl : E.now.objs.length = S.objs.length := by rw [h.now]; simp
 have hr : rowAt E.now.objs a = r := by rw [h.now]; show rowAt (S.objs.set a r) a = r; rw [zb5 _ _ _ _ ha, if_pos rfl]
 have hs : E.now.setObj a f v = { S with objs := S.objs.set a (r.set f v) } := by
  unfold St.setObj
  rw [hr, h.now]
  simp
 have e1 : E.setObj a f v = E.set [2, (a : Int), (f : Int), 0, 0, 0] (gt r f) v := by
  unfold Em.setObj
  rw [if_neg (by rw [h.err]; simp), if_neg (by rw [zfg a f 0 0 hf hf3 (by omega), hl]; omega), Int.toNat_natCast, Int.toNat_natCast, hr]
 have e2 : (([2, (a : Int), (f : Int), 0, 0, 0] : List Int).set 3 (gt r f)).set 4 v = [2, (a : Int), (f : Int), gt r f, v, 0] := rfl
 rw [e1]
 unfold Em.set
 rw [e2]
 by_cases e : gt r f = v
 · rw [if_pos e, zfg a f _ _ hf hf3 hv]
   rw [Em.fail0 h.err]
   exact ⟨h.err, by rw [h.now, ← e, zyh], h.draws, h.pend, by have := h.evs; omega, by rw [List.length_set]; exact h.len⟩
 · rw [if_neg e]
   have hd : zen E.now [2, (a : Int), (f : Int), gt r f, v, 0] = .ok (E.now.setObj a f v) := by
    unfold zen
    rw [zfg a f _ _ hf hf3 hv]
    have g1 : gt [2, (a : Int), (f : Int), gt r f, v, 0] 1 = a := rfl
    have g2 : gt [2, (a : Int), (f : Int), gt r f, v, 0] 2 = f := rfl
    have g3 : gt [2, (a : Int), (f : Int), gt r f, v, 0] 3 = gt r f := rfl
    have g4 : gt [2, (a : Int), (f : Int), gt r f, v, 0] 4 = v := rfl
    have g0 : gt [2, (a : Int), (f : Int), gt r f, v, 0] 0 = 2 := rfl
    rw [g0, g1, g2, g3, g4, Int.toNat_natCast, Int.toNat_natCast, hr]
    simp
    omega
   unfold Em.do1
   rw [if_neg (by rw [h.err]; simp), hd, hs]
   show EmAt E0 S a (r.set f v) (n + 1) (if E.evs.length < 65536 then _ else _)
   rw [if_pos (by have := h.evs; omega)]
   exact ⟨h.err, rfl, h.draws, h.pend, by have := h.evs; rw [List.length_append]; show E.evs.length + 1 ≤ _; omega, by rw [List.length_set]; exact h.len⟩
theorem EmAt.mono {E0 E : Em} {S : St} {a n m : Nat} {r : List Int} (h : EmAt E0 S a r n E) (hn : n ≤ m) : EmAt E0 S a r m E := ⟨h.err, h.now, h.draws, h.pend, Nat.le_trans h.evs hn, h.len⟩
theorem zyk (w p : Int) (h0 : 0 ≤ w) (h1 : w ≤ 3) (hp0 : 0 ≤ p) (hp : p ≤ 3) : 0 ≤ zdo w p ∧ zdo w p ≤ 3 := by
 have h2 : w = 0 ∨ w = 1 ∨ w = 2 ∨ w = 3 := by omega
 have h3 : p = 0 ∨ p = 1 ∨ p = 2 ∨ p = 3 := by omega
 rcases h3 with rfl | rfl | rfl | rfl <;> rcases h2 with rfl | rfl | rfl | rfl <;> decide
theorem zqt (z : Int) : 0 ≤ zbx z ∧ zbx z ≤ 3 := by
 unfold zbx
 (repeat' split) <;> decide
theorem EmAt.show {E0 E : Em} {S : St} {a n : Nat} {r : List Int} (h : EmAt E0 S a r n E) (ha : a < S.objs.length) (p : Int) (h0 : 0 ≤ gt r 17) (h1 : gt r 17 ≤ 3) (hp0 : 0 ≤ p) (hp : p ≤ 3) (hn : n < 65536) :
 EmAt E0 S a (r.set 17 (zdo (gt r 17) p)) (n + 1) (E.show a p) := by
 obtain ⟨q0, q1⟩ := zyk _ _ h0 h1 hp0 hp
 have hl : E.now.objs.length = S.objs.length := by rw [h.now]; simp
 have hr : rowAt E.now.objs a = r := by rw [h.now]; show rowAt (S.objs.set a r) a = r; rw [zb5 _ _ _ _ ha, if_pos rfl]
 have hs := h.set ha 17 (zdo (gt r 17) p) (by omega) (by omega) (by omega) hn
 have e0 : E.setObj a ((17 : Nat) : Int) (zdo (gt r 17) p) = E.show a p := by
  unfold Em.show
  rw [if_neg (by rw [h.err]; simp)]
  have e1 : E.setObj a (17 : Nat) (zdo (gt r 17) p) = E.set [2, (a : Int), ((17 : Nat) : Int), 0, 0, 0] (gt r 17) (zdo (gt r 17) p) := by
   unfold Em.setObj
   rw [if_neg (by rw [h.err]; simp), if_neg (by rw [zfg a 17 0 0 (by omega) (by omega) (by omega), hl]; omega), Int.toNat_natCast, Int.toNat_natCast, hr]
  rw [e1]
  have e2 : (([2, (a : Int), ((17 : Nat) : Int), 0, 0, 0] : List Int).set 3 (gt r 17)).set 4 (zdo (gt r 17) p) = [2, (a : Int), 17, gt r 17, zdo (gt r 17) p, 0] := rfl
  unfold Em.set
  rw [e2]
  unfold showEv
  by_cases e : gt r 17 = zdo (gt r 17) p
  · have hc := zfg a 17 (gt r 17) (zdo (gt r 17) p) (by omega) (by omega) (by omega)
    rw [show ((17 : Nat) : Int) = 17 from rfl] at hc
    rw [if_pos e, hc, Em.fail0 h.err, if_neg (by omega), Int.toNat_natCast, hr, if_pos e.symm]
    rfl
  · rw [if_neg e, if_neg (by omega), Int.toNat_natCast, hr, if_neg (Ne.symm e)]
    rfl
 rw [e0] at hs
 exact hs
def ze4 (o : List Int) (dz : Int) : List Int := if dz ≠ 8 then restL.foldl (fun r f => r.set f.toNat 0) (o.set 3 dz) else o.set 3 dz
def ze5 (o : List Int) (dz : Int) : List Int := if dz < 8 then (ze4 o dz).set 2 (gt o 1) else ze4 o dz
def ze6 (o : List Int) (dz : Int) : List Int := if dz ≠ 9 then (ze5 o dz).set 16 0 else ze5 o dz
def zdk (o : List Int) (dz : Int) : List Int := if dz = 8 ∧ gt o 3 ≠ dz then (ze6 o dz).set 5 1 else ze6 o dz
def putRow (o : List Int) (dz : Int) : List Int := (zdk o dz).set 17 (zdo (gt (zdk o dz) 17) (zbx dz))
theorem EmAt.rest {E0 E : Em} {S : St} {a n : Nat} {r : List Int} (h : EmAt E0 S a r n E) (ha : a < S.objs.length) (hn : n + 9 ≤ 65536) :
 EmAt E0 S a (restL.foldl (fun r f => r.set f.toNat 0) r) (n + 9) (E.rest a) := by
 have h1 := h.set ha 4 0 (by omega) (by omega) (by omega) (by omega)
 have h2 := h1.set ha 5 0 (by omega) (by omega) (by omega) (by omega)
 have h3 := h2.set ha 6 0 (by omega) (by omega) (by omega) (by omega)
 have h4 := h3.set ha 7 0 (by omega) (by omega) (by omega) (by omega)
 have h5 := h4.set ha 8 0 (by omega) (by omega) (by omega) (by omega)
 have h6 := h5.set ha 9 0 (by omega) (by omega) (by omega) (by omega)
 have h7 := h6.set ha 10 0 (by omega) (by omega) (by omega) (by omega)
 have h8 := h7.set ha 11 0 (by omega) (by omega) (by omega) (by omega)
 exact h8.set ha 12 0 (by omega) (by omega) (by omega) (by omega)
theorem ycb (o : List Int) (h : o.length = 18) : o = [gt o 0, gt o 1, gt o 2, gt o 3, gt o 4, gt o 5, gt o 6, gt o 7, gt o 8, gt o 9, gt o 10, gt o 11, gt o 12, gt o 13, gt o 14, gt o 15, gt o 16, gt o 17] := by
 have : o = (List.range 18).map (gt o) := by
  apply List.ext_getElem (by simp [h])
  intro i h1 h2
  simp [gt, h1]
 exact this
theorem yca : zbx 8 = 3 := by decide
theorem znl (o : List Int) (h : o.length = 18) (dz : Int) : putRow o dz =
 if dz < 8 then [gt o 0, gt o 1, gt o 1, dz, 0, 0, 0, 0, 0, 0, 0, 0, 0, gt o 13, gt o 14, gt o 15, 0, zdo (gt o 17) (zbx dz)]
 else if dz = 8 then [gt o 0, gt o 1, gt o 2, 8, gt o 4, (if gt o 3 = 8 then gt o 5 else 1), gt o 6, gt o 7, gt o 8, gt o 9, gt o 10, gt o 11, gt o 12, gt o 13, gt o 14, gt o 15, 0, zdo (gt o 17) 3]
 else [gt o 0, gt o 1, gt o 2, dz, 0, 0, 0, 0, 0, 0, 0, 0, 0, gt o 13, gt o 14, gt o 15, (if dz = 9 then gt o 16 else 0), zdo (gt o 17) (zbx dz)] := by
 have h3 : putRow o dz = putRow [gt o 0, gt o 1, gt o 2, gt o 3, gt o 4, gt o 5, gt o 6, gt o 7, gt o 8, gt o 9, gt o 10, gt o 11, gt o 12, gt o 13, gt o 14, gt o 15, gt o 16, gt o 17] dz := by rw [← ycb o h]
 rw [h3]
 generalize gt o 0 = x0, gt o 1 = x1, gt o 2 = x2, gt o 3 = x3, gt o 4 = x4, gt o 5 = x5, gt o 6 = x6, gt o 7 = x7, gt o 8 = x8, gt o 9 = x9, gt o 10 = x10, gt o 11 = x11, gt o 12 = x12, gt o 13 = x13, gt o 14 = x14, gt o 15 = x15, gt o 16 = x16, gt o 17 = x17
 clear h h3
 unfold putRow zdk ze6 ze5 ze4
 have e3 : gt [x0, x1, x2, x3, x4, x5, x6, x7, x8, x9, x10, x11, x12, x13, x14, x15, x16, x17] 3 = x3 := rfl
 have e1 : gt [x0, x1, x2, x3, x4, x5, x6, x7, x8, x9, x10, x11, x12, x13, x14, x15, x16, x17] 1 = x1 := rfl
 rw [e3, e1]
 by_cases c1 : dz < 8
 · have c2 : dz ≠ 8 := by omega
   have c3 : dz ≠ 9 := by omega
   have c4 : ¬ (dz = 8 ∧ x3 ≠ dz) := by omega
   simp only [if_pos c1, if_pos c2, if_pos c3, if_neg c4]
   rfl
 · by_cases c2 : dz = 8
   · subst c2
     have c3 : (8 : Int) ≠ 9 := by decide
     by_cases c4 : x3 = 8
     · have c5 : ¬ ((8 : Int) = 8 ∧ x3 ≠ 8) := by omega
       have c6 : ¬ ((8 : Int) ≠ 8) := by omega
       subst c4
       rfl
     · have c5 : ((8 : Int) = 8 ∧ x3 ≠ 8) := by omega
       have c6 : ¬ ((8 : Int) ≠ 8) := by omega
       simp only [if_neg c1, if_pos c3, yca, if_true, ne_eq, c4, not_false_eq_true, and_self]
       rfl
   · have c5 : ¬ (dz = 8 ∧ x3 ≠ dz) := by omega
     by_cases c3 : dz = 9
     · subst c3
       have c6 : ¬ ((9 : Int) ≠ 9) := by omega
       simp only [if_neg c1, if_true, ne_eq, c2, not_false_eq_true]
       rfl
     · have c6 : dz ≠ 9 := c3
       simp only [if_neg c1, if_pos c6, if_neg c3, ne_eq, c2, not_false_eq_true, if_true]
       rfl
theorem zk5 (bs o : List Int) (h : zdv bs o 18 = true) (i : Nat) (hi : i < 18) : gt bs (i * 2) ≤ gt o i ∧ gt o i ≤ gt bs (i * 2 + 1) := by
 unfold zdv at h
 rw [List.all_eq_true] at h
 have := h i (List.mem_range.2 hi)
 simpa [inB] using this
theorem Right.row {S : St} (h : Right S) {i : Nat} (hi : i < S.objs.length) : zdv (zal S.objs.length) (rowAt S.objs i) 18 = true := ((za2 S).1 h.ranges).1 i hi
structure RowFine (n : Nat) (o : List Int) : Prop where
 ok : zdv (zal n) o 18 = true
 len : o.length = 18
theorem RowFine.set {n : Nat} {o : List Int} (h : RowFine n o) (f : Nat) (v : Int) (hf : f < 18) (hv : gt (zal n) (f * 2) ≤ v ∧ v ≤ gt (zal n) (f * 2 + 1)) : RowFine n (o.set f v) :=
 ⟨zl2 _ _ _ _ _ h.ok (by rw [h.len]; exact hf) (by simp [inB]; exact hv), by rw [List.length_set]; exact h.len⟩
theorem RowFine.rest {n : Nat} {o : List Int} (h : RowFine n o) : RowFine n (restL.foldl (fun r f => r.set f.toNat 0) o) := by
 have b : ∀ f, f = 4 ∨ f = 5 ∨ f = 6 ∨ f = 7 ∨ f = 8 ∨ f = 9 ∨ f = 10 ∨ f = 11 ∨ f = 12 → gt (zal n) (f * 2) ≤ 0 ∧ 0 ≤ gt (zal n) (f * 2 + 1) := by
  rintro f (rfl | rfl | rfl | rfl | rfl | rfl | rfl | rfl | rfl) <;> simp [zal, gt]
 exact ((((((((h.set 4 0 (by omega) (b 4 (by omega))).set 5 0 (by omega) (b 5 (by omega))).set 6 0 (by omega) (b 6 (by omega))).set 7 0 (by omega) (b 7 (by omega))).set 8 0 (by omega) (b 8 (by omega))).set 9 0 (by omega) (b 9 (by omega))).set 10 0 (by omega) (b 10 (by omega))).set 11 0 (by omega) (b 11 (by omega))).set 12 0 (by omega) (b 12 (by omega))
theorem RowFine.put {n : Nat} {o : List Int} (h : RowFine n o) (dz : Int) (h0 : 0 ≤ dz) (h1 : dz ≤ 10) : RowFine n (putRow o dz) := by
 have g1 : 0 ≤ gt o 1 ∧ gt o 1 ≤ 1 := zk5 _ _ h.ok 1 (by omega)
 have r0 := h.set 3 dz (by omega) ⟨h0, h1⟩
 have r1 : RowFine n (ze4 o dz) := by
  unfold ze4; split
  · exact r0.rest
  · exact r0
 have r2 : RowFine n (ze5 o dz) := by
  unfold ze5; split
  · exact r1.set 2 _ (by omega) g1
  · exact r1
 have r3 : RowFine n (ze6 o dz) := by
  unfold ze6; split
  · exact r2.set 16 0 (by omega) ⟨by simp [zal, gt], by simp [zal, gt]⟩
  · exact r2
 have r4 : RowFine n (zdk o dz) := by
  unfold zdk; split
  · exact r3.set 5 1 (by omega) ⟨by simp [zal, gt], by simp [zal, gt]⟩
  · exact r3
 have g17 : 0 ≤ gt (zdk o dz) 17 ∧ gt (zdk o dz) 17 ≤ 3 := zk5 _ _ r4.ok 17 (by omega)
 have k := zqt dz
 exact r4.set 17 _ (by omega) (zyk _ _ g17.1 g17.2 k.1 k.2)
theorem znk (o : List Int) (h : o.length = 18) (dz : Int) : gt (putRow o dz) 0 = gt o 0 ∧ gt (putRow o dz) 1 = gt o 1 ∧ gt (putRow o dz) 3 = dz ∧ gt (putRow o dz) 13 = gt o 13 ∧ zbf (putRow o dz) = true := by
 rw [znl o h]
 by_cases c1 : dz < 8
 · rw [if_pos c1]
   refine ⟨rfl, rfl, rfl, rfl, ?_⟩
   show (!(dz != 8 && false) && !(decide (dz < 8) && gt o 1 != gt o 1) && (dz == 9 || (0 : Int) == 0)) = true
   simp
 · rw [if_neg c1]
   by_cases c2 : dz = 8
   · rw [if_pos c2]
     subst c2
     refine ⟨rfl, rfl, rfl, rfl, ?_⟩
     unfold zbf
     simp [gt]
   · rw [if_neg c2]
     refine ⟨rfl, rfl, rfl, rfl, ?_⟩
     by_cases c3 : dz = 9
     · subst c3
       show (!((9 : Int) != 8 && false) && !(decide ((9 : Int) < 8) && gt o 2 != gt o 1) && ((9 : Int) == 9 || _)) = true
       simp
     · rw [if_neg c3]
       show (!(dz != 8 && false) && !(decide (dz < 8) && gt o 2 != gt o 1) && (dz == 9 || (0 : Int) == 0)) = true
       simp [c1]
theorem zqe {base : Int} (h : zgv base = true) : base = 0 ∨ base = 2 ∨ base = 4 ∨ base = 6 ∨ base = 8 ∨ base = 9 ∨ base = 10 := by
 unfold zgv zkn at h
 simp only [Bool.or_eq_true, beq_iff_eq, decide_eq_true_eq] at h
 split at h <;> omega
theorem zwt {S : St} (h : Right S) {a : Nat} (ha : a < S.objs.length) {base : Int} (hb : zgv base = true) : ∃ d : Nat, zfk (rowAt S.objs a) base = d ∧ d < 11 ∧ zbg (rowAt S.objs a) d = true := by
 have g1 : 0 ≤ gt (rowAt S.objs a) 1 ∧ gt (rowAt S.objs a) 1 ≤ 1 := zk5 _ _ (h.row ha) 1 (by omega)
 have g13 : 0 ≤ gt (rowAt S.objs a) 13 ∧ gt (rowAt S.objs a) 13 ≤ 2 := zk5 _ _ (h.row ha) 13 (by omega)
 have key : 0 ≤ zfk (rowAt S.objs a) base ∧ zfk (rowAt S.objs a) base < 11 ∧ zbg (rowAt S.objs a) (zfk (rowAt S.objs a) base) = true := by
  unfold zfk zkn zbg zdg zfr zdg
  generalize gt (rowAt S.objs a) 1 = p at *
  generalize gt (rowAt S.objs a) 13 = k at *
  have c1 : p = 0 ∨ p = 1 := by omega
  have c2 : k = 0 ∨ k = 1 ∨ k = 2 := by omega
  rcases zqe hb with rfl | rfl | rfl | rfl | rfl | rfl | rfl <;> rcases c1 with rfl | rfl <;> rcases c2 with rfl | rfl | rfl <;> decide
 obtain ⟨d, hd⟩ := Int.eq_ofNat_of_zero_le key.1
 refine ⟨d, hd, by omega, ?_⟩
 have := key.2.2
 rw [hd] at this
 exact this
theorem zod (c : Nat) (wh : Int) : (usesN (zcs c).abs wh).length ≤ 2 := Nat.le_trans (zhq _ _) (zgw c)
structure PutTo (E E' : Em) (a z c d : Nat) : Prop where
 err : E'.err = 0
 objs : E'.now.objs = E.now.objs.set a (putRow (rowAt E.now.objs a) d)
 list : E'.now.list = (zbt E.now a z c d (zbz E.now z c d).length).list
 num : E'.now.num = E.now.num
 draws : E'.draws = E.draws
 evs : E'.evs.length ≤ E.evs.length + 14
 pend : E'.pend.length ≤ E.pend.length + 2
 right : Right E'.now
theorem Right.putTo {S T : St} (h : Right S) (hw : ∀ i, i < S.objs.length → (rowAt S.objs i).length = 18) (a z c d e : Nat) (ha : a < S.objs.length) (hz : z < 11) (hd : d < 11) (hc : c < (S.list z).length) (hca : gt (S.list z) c = a) (he : e ≤ (zbz S z c d).length)
 (hs : zbg (rowAt S.objs a) d = true) (ho : T.objs = S.objs.set a (putRow (rowAt S.objs a) d)) (hl : T.list = (zbt S a z c d e).list) (hn : T.num = S.num) : Right T := by
 have hlen : T.objs.length = S.objs.length := by rw [ho]; simp
 obtain ⟨f0, f1, f3, f13, ff⟩ := znk (rowAt S.objs a) (hw a ha) d
 have hzm := h.zon.moved hw a z c d e ha hz hd hc hca he hs
 have hrow : ∀ i, rowAt T.objs i = if a = i then putRow (rowAt S.objs a) d else rowAt S.objs i := fun i => by rw [ho, zb5 _ _ _ _ ha]
 have hrm : ∀ i, rowAt (zbt S a z c d e).objs i = if a = i then (rowAt S.objs a).set 3 d else rowAt S.objs i := fun i => zb5 _ _ _ _ ha
 have hml : (zbt S a z c d e).objs.length = S.objs.length := by simp [zbt]
 refine ⟨by rw [hlen]; exact h.many, (za2 T).2 ⟨fun i hi => ?_, ?_, ?_⟩, ⟨fun y hy x hx => ?_, fun id hid => ?_⟩, fun i hi => ?_⟩
 · rw [hlen, hrow]
   split
   · exact ((RowFine.mk (h.row ha) (hw a ha)).put d (by omega) (by omega)).ok
   · exact h.row (by omega)
 · have := ((za2 S).1 h.ranges).2.1
   unfold zfn at *
   rw [hn]; exact this
 · rw [hn]; exact ((za2 S).1 h.ranges).2.2
 · rw [hl] at hx
   obtain ⟨p, q, r, s⟩ := hzm.ok y hy x hx
   refine ⟨p, by rw [hlen]; rw [hml] at q; exact q, ?_, ?_⟩
   · rw [hrow]; rw [hrm] at r
     split at r
     · rename_i e1; rw [if_pos e1, f3]; rw [zeh _ _ _ _ (by rw [hw a ha]; omega), if_pos rfl] at r; exact r
     · rename_i e1; rw [if_neg e1]; exact r
   · rw [hrow]; rw [hrm] at s
     split at s
     · rename_i e1; rw [if_pos e1]
       rw [zj1 _ (hw a ha)] at s
       unfold zbg at s ⊢
       rw [f1, f13]; exact s
     · rename_i e1; rw [if_neg e1]; exact s
 · have := hzm.once id (by rw [hml]; omega)
   have e1 : ∀ k, zcg T (id : Int) k = zcg (zbt S a z c d e) (id : Int) k := fun k => by unfold zcg; rw [hl]
   rw [e1]; exact this
 · rw [hrow]
   split
   · exact ff
   · exact h.formed i (by omega)
theorem EmAt.put2 {E0 E : Em} {S : St} {a n : Nat} {o : List Int} (dz : Int) (h : EmAt E0 S a (o.set 3 dz) n E) (ha : a < S.objs.length) (hf : RowFine S.objs.length o) (h0 : 0 ≤ dz) (h1 : dz ≤ 10) (hn : n + 13 ≤ 65536) :
 EmAt E0 S a (putRow o dz) (n + 13) (E.put2 a (gt o 3) dz (gt o 1)) := by
 have g1 : 0 ≤ gt o 1 ∧ gt o 1 ≤ 1 := zk5 _ _ hf.ok 1 (by omega)
 have r0 := hf.set 3 dz (by omega) ⟨h0, h1⟩
 have a2 : EmAt E0 S a (ze4 o dz) (n + 9) (if dz ≠ 8 then E.rest a else E) := by
  unfold ze4
  split
  · exact h.rest ha (by omega)
  · exact h.mono (by omega)
 have a3 : EmAt E0 S a (ze5 o dz) (n + 10) (if dz < 8 then (if dz ≠ 8 then E.rest a else E).setObj a 2 (gt o 1) else (if dz ≠ 8 then E.rest a else E)) := by
  unfold ze5
  split
  · exact a2.set ha 2 _ (by omega) (by omega) (by omega) (by omega)
  · exact a2.mono (by omega)
 generalize hE3 : (if dz < 8 then (if dz ≠ 8 then E.rest a else E).setObj a 2 (gt o 1) else (if dz ≠ 8 then E.rest a else E)) = E3 at a3
 have a4 : EmAt E0 S a (ze6 o dz) (n + 11) (if dz ≠ 9 then E3.setObj a 16 0 else E3) := by
  unfold ze6
  split
  · exact a3.set ha 16 _ (by omega) (by omega) (by omega) (by omega)
  · exact a3.mono (by omega)
 generalize hE4 : (if dz ≠ 9 then E3.setObj a 16 0 else E3) = E4 at a4
 have a5 : EmAt E0 S a (zdk o dz) (n + 12) (if dz = 8 ∧ gt o 3 ≠ dz then E4.setObj a 5 1 else E4) := by
  unfold zdk
  split
  · exact a4.set ha 5 _ (by omega) (by omega) (by omega) (by omega)
  · exact a4.mono (by omega)
 generalize hE5 : (if dz = 8 ∧ gt o 3 ≠ dz then E4.setObj a 5 1 else E4) = E5 at a5
 have k := zqt dz
 have g17 : 0 ≤ gt (zdk o dz) 17 ∧ gt (zdk o dz) 17 ≤ 3 := by
  have e17 : gt (zdk o dz) 17 = gt o 17 := by
   have hz : ∀ (l : List Int) (i : Nat) (v : Int), i ≠ 17 → gt (l.set i v) 17 = gt l 17 := fun l i v hi => by
    unfold gt List.getD
    rw [List.getElem?_set_ne hi]
   have e1 : gt (ze4 o dz) 17 = gt o 17 := by
    unfold ze4 restL
    split
    · simp only [List.foldl_cons, List.foldl_nil]
      repeat rw [hz _ _ _ (by decide)]
    · exact hz _ _ _ (by decide)
   have e2 : gt (ze5 o dz) 17 = gt o 17 := by
    unfold ze5; split
    · rw [hz _ _ _ (by decide), e1]
    · exact e1
   have e3 : gt (ze6 o dz) 17 = gt o 17 := by
    unfold ze6; split
    · rw [hz _ _ _ (by decide), e2]
    · exact e2
   unfold zdk; split
   · rw [hz _ _ _ (by decide), e3]
   · exact e3
  rw [e17]
  exact zk5 _ _ hf.ok 17 (by omega)
 have a6 := a5.show ha (zbx dz) g17.1 g17.2 k.1 k.2 (by omega)
 have e : E.put2 a (gt o 3) dz (gt o 1) = E5.show a (zbx dz) := by rw [← hE5, ← hE4, ← hE3]; rfl
 rw [e]
 exact a6
theorem zq1 {E : Em} (he : E.err = 0) (hR : Right E.now) (hw : ∀ i, i < E.now.objs.length → (rowAt E.now.objs i).length = 18) (a : Nat) (ha : a < E.now.objs.length) (base : Int) (hb : zgv base = true) (hn : E.evs.length + 14 ≤ 65536) :
 ∃ z c d : Nat, gt (rowAt E.now.objs a) 3 = z ∧ z < 11 ∧ c < (E.now.list z).length ∧ gt (E.now.list z) c = a ∧ zfk (rowAt E.now.objs a) base = d ∧ d < 11 ∧ PutTo E (E.put a base) a z c d := by
 obtain ⟨z, c, hz, hz11, hc, hcl, hca⟩ := hR.zon.idx a ha
 obtain ⟨d, hd, hd11, hst⟩ := zwt hR ha hb
 refine ⟨z, c, d, hz, hz11, hcl, hca, hd, hd11, ?_⟩
 have hev : E.now.putEv a d = [1, (a : Int), (z : Int), (c : Int), (d : Int), ((zbz E.now z c d).length : Int)] := by
  unfold St.putEv
  rw [Int.toNat_natCast, hz]
  simp only [Int.toNat_natCast, hc]
  have : ((E.now.list d).length : Int) - (if (z : Int) = d then 1 else 0) = ((zbz E.now z c d).length : Int) := by
   unfold zbz
   by_cases e : d = z
   · subst e; rw [if_pos rfl, if_pos rfl, znb _ _ hcl]; omega
   · rw [if_neg e, if_neg (by omega)]; omega
  rw [this]
 have hdo : zen E.now (E.now.putEv a d) = .ok (zbt E.now a z c d (zbz E.now z c d).length) := by rw [hev, zmy _ _ _ _ _ _ hz11 hd11, z2l _ _ _ _ _ _ ha hcl hca (Nat.le_refl _)]
 have hA : EmAt E { E.now with list := (zbt E.now a z c d (zbz E.now z c d).length).list } a ((rowAt E.now.objs a).set 3 d) (E.evs.length + 1) (E.do1 (E.now.putEv a d)) := by
  unfold Em.do1
  rw [if_neg (by rw [he]; simp), hdo]
  show EmAt _ _ _ _ _ (if E.evs.length < 65536 then _ else _)
  rw [if_pos (by omega)]
  exact ⟨he, rfl, rfl, rfl, by rw [List.length_append]; show E.evs.length + 1 ≤ _; omega, by rw [List.length_set]; exact hw a ha⟩
 have hf : RowFine E.now.objs.length (rowAt E.now.objs a) := ⟨hR.row ha, hw a ha⟩
 have hB := hA.put2 (d : Int) ha hf (by omega) (by omega) (by omega)
 have hput : E.put a base = ((E.do1 (E.now.putEv a d)).put2 a (gt (rowAt E.now.objs a) 3) d (gt (rowAt E.now.objs a) 1)).put3 a (gt (rowAt E.now.objs a) 3) d base (gt (rowAt E.now.objs a) 2) := by
  unfold Em.put
  rw [if_neg (by rw [he]; simp), if_neg (by omega), if_neg (by rw [hb]; simp)]
  simp only [Int.toNat_natCast, hd]
 rw [hput]
 generalize (E.do1 (E.now.putEv a d)).put2 a (gt (rowAt E.now.objs a) 3) d (gt (rowAt E.now.objs a) 1) = E6 at hB
 have hT : Right E6.now := hR.putTo hw a z c d _ ha hz11 hd11 hcl hca (Nat.le_refl _) hst (by rw [hB.now]) (by rw [hB.now]) (by rw [hB.now])
 have hal : a < E6.now.objs.length := by rw [hB.now]; show a < (E.now.objs.set a _).length; rw [List.length_set]; exact ha
 have hcd := hT.card hal
 have hB2 : PutTo E E6 a z c d := ⟨hB.err, by rw [hB.now], by rw [hB.now], by rw [hB.now], hB.draws, by have := hB.evs; omega, by rw [hB.pend]; omega, hT⟩
 have haw : ∀ wh ctl, PutTo E (E6.await a wh ctl) a z c d := fun wh ctl => by
  unfold Em.await
  rw [Int.toNat_natCast, if_pos ⟨hcd.1, hcd.2⟩]
  refine ⟨hB2.err, hB2.objs, hB2.list, hB2.num, hB2.draws, hB2.evs, ?_, hT⟩
  show (E6.pend ++ _).length ≤ _
  rw [List.length_append, List.length_map, hB.pend]
  have := zod (gt (rowAt E6.now.objs a) 0).toNat wh
  omega
 unfold Em.put3
 rw [if_neg (by rw [hB.err]; simp)]
 split
 · exact haw _ _
 · split
   · exact haw _ _
   · exact hB2
theorem zkw (o : List Int) : zfk o 4 ≠ 8 := by
 unfold zfk zkn
 generalize gt o 1 = p
 generalize gt o 13 = k
 by_cases h0 : p = 0
 · subst h0; simp; split <;> omega
 · by_cases h1 : p = 1
   · subst h1; simp; split <;> omega
   · simp [h0, h1]; split <;> omega
end Go.Proofs.YthfalocligkamaaGreatDoor
namespace Go.Proofs.YthfalocligkamaaGreatDoor
open Go Go.RowKit Go.Shelf
theorem zrg (base p : Int) (w : World) : Calls Tryz.prog 143 #[.int .i64 base, .int .i64 p] w fun e w' => e = .returned (.int .i64 (zkn base p)) ∧ w' = w := by
 unfold zkn
 by_cases hb : base = 0 ∨ base = 2 ∨ base = 4 ∨ base = 6
 · by_cases hp : p = 0 ∨ p = 1
   · rw [if_pos ⟨hb, hp⟩]
     rcases hb with rfl | rfl | rfl | rfl <;> rcases hp with rfl | rfl
     all_goals
      go_enter Tryz.func143, Tryz.ntmps143
      go_wp2_with fail
      go_ret
      exact ⟨rfl, rfl⟩
   · rw [if_neg (fun h => hp h.2)]
     obtain ⟨h1, h2⟩ : (p == 0) = false ∧ (p == 1) = false := by simp; omega
     clear hp
     rcases hb with rfl | rfl | rfl | rfl
     all_goals
      go_enter Tryz.func143, Tryz.ntmps143
      go_wp2_with fail
      go_ret
      exact ⟨rfl, rfl⟩
 · rw [if_neg (fun h => hb h.1)]
   obtain ⟨h1, h2, h3, h4⟩ : ¬ base = 0 ∧ ¬ base = 2 ∧ ¬ base = 4 ∧ ¬ base = 6 := by omega
   clear hb
   go_enter Tryz.func143, Tryz.ntmps143
   go_wp2_with fail
   go_ret
   exact ⟨rfl, rfl⟩
theorem zms (base : Int) (w : World) : Calls Tryz.prog 115 #[.int .i64 base] w fun e w' => e = .returned (.bool (zgv base)) ∧ w' = w := by
 by_cases h8 : base = 8
 · subst h8
   go_enter Tryz.func115, Tryz.ntmps115
   go_wp2_with fail
   go_ret
   exact ⟨rfl, rfl⟩
 by_cases h9 : base = 9
 · subst h9
   go_enter Tryz.func115, Tryz.ntmps115
   go_wp2_with fail
   go_ret
   exact ⟨rfl, rfl⟩
 by_cases h10 : base = 10
 · subst h10
   go_enter Tryz.func115, Tryz.ntmps115
   go_wp2_with fail
   go_ret
   exact ⟨rfl, rfl⟩
 go_enter Tryz.func115, Tryz.ntmps115
 go_wp2_with (go_at_call 143; refine (zrg _ _ _).mono ?_; rintro e' w' ⟨rfl, hww⟩; subst w')
 go_ret
 exact ⟨by rfl, rfl⟩
set_option maxRecDepth 100000 in
set_option maxHeartbeats 2000000 in
theorem z2a (o : List Int) (ho : o.length = 18) (base : Int) (w : World) : Calls Tryz.prog 116 #[.agg (cellsOf o), .int .i64 base] w fun e w' => e = .returned (.int .i64 (zfk o base)) ∧ Grow w w' := by
 have HZ := Lib.hid (fun W => zrg base (gt o 1) W)
 unfold zfk
 generalize hz : zkn base (gt o 1) = z at *
 generalize hk : gt o 13 = k at *
 clear hz
 simp only
 generalize hres : (if (k = 1 ∧ (if 0 ≤ z then z else base) < 8) ∨ (k = 2 ∧ (if 0 ≤ z then z else base) ≠ 9) then (10 : Int) else (if 0 ≤ z then z else base)) = res
 by_cases h0 : 0 ≤ z
 · by_cases k1 : k = 1
   · by_cases c : z < 8
     · have e : res = 10 := by rw [← hres]; simp [k1, h0, c]
       subst e
       clear hres
       go_enter Tryz.func116, Tryz.ntmps116
       go_wp2_with (go_at_call 143; refine (HZ.out _).mono ?_; rintro e' w' ⟨rfl, hww⟩; subst w')
       go_ret
       exact ⟨rfl, grI⟩
     · have e : res = z := by rw [← hres]; simp [k1, h0, c]
       subst e
       clear hres
       go_enter Tryz.func116, Tryz.ntmps116
       go_wp2_with (go_at_call 143; refine (HZ.out _).mono ?_; rintro e' w' ⟨rfl, hww⟩; subst w')
       go_ret
       exact ⟨rfl, grI⟩
   · by_cases k2 : k = 2
     · by_cases c : z = 9
       · subst c; have e : res = 9 := by rw [← hres]; simp [k2]
         subst e
         clear hres
         go_enter Tryz.func116, Tryz.ntmps116
         go_wp2_with (go_at_call 143; refine (HZ.out _).mono ?_; rintro e' w' ⟨rfl, hww⟩; subst w')
         go_ret
         exact ⟨rfl, grI⟩
       · have e : res = 10 := by rw [← hres]; simp [k2, h0, c]
         subst e
         clear hres
         go_enter Tryz.func116, Tryz.ntmps116
         go_wp2_with (go_at_call 143; refine (HZ.out _).mono ?_; rintro e' w' ⟨rfl, hww⟩; subst w')
         go_ret
         exact ⟨rfl, grI⟩
     · have e : res = z := by rw [← hres]; simp [k1, k2, h0]
       subst e
       clear hres
       go_enter Tryz.func116, Tryz.ntmps116
       go_wp2_with (go_at_call 143; refine (HZ.out _).mono ?_; rintro e' w' ⟨rfl, hww⟩; subst w')
       go_ret
       exact ⟨rfl, grI⟩
 · by_cases k1 : k = 1
   · by_cases c : base < 8
     · have e : res = 10 := by rw [← hres]; simp [k1, h0, c]
       subst e
       clear hres
       go_enter Tryz.func116, Tryz.ntmps116
       go_wp2_with (go_at_call 143; refine (HZ.out _).mono ?_; rintro e' w' ⟨rfl, hww⟩; subst w')
       go_ret
       exact ⟨rfl, grI⟩
     · have e : res = base := by rw [← hres]; simp [k1, h0, c]
       subst e
       clear hres
       go_enter Tryz.func116, Tryz.ntmps116
       go_wp2_with (go_at_call 143; refine (HZ.out _).mono ?_; rintro e' w' ⟨rfl, hww⟩; subst w')
       go_ret
       exact ⟨rfl, grI⟩
   · by_cases k2 : k = 2
     · by_cases c : base = 9
       · subst c; have e : res = 9 := by rw [← hres]; simp [k2, h0]
         subst e
         clear hres
         go_enter Tryz.func116, Tryz.ntmps116
         go_wp2_with (go_at_call 143; refine (HZ.out _).mono ?_; rintro e' w' ⟨rfl, hww⟩; subst w')
         go_ret
         exact ⟨rfl, grI⟩
       · have e : res = 10 := by rw [← hres]; simp [k2, h0, c]
         subst e
         clear hres
         go_enter Tryz.func116, Tryz.ntmps116
         go_wp2_with (go_at_call 143; refine (HZ.out _).mono ?_; rintro e' w' ⟨rfl, hww⟩; subst w')
         go_ret
         exact ⟨rfl, grI⟩
     · have e : res = base := by rw [← hres]; simp [k1, k2, h0]
       subst e
       clear hres
       go_enter Tryz.func116, Tryz.ntmps116
       go_wp2_with (go_at_call 143; refine (HZ.out _).mono ?_; rintro e' w' ⟨rfl, hww⟩; subst w')
       go_ret
       exact ⟨rfl, grI⟩
theorem zfl (z : Int) (w : World) : Calls Tryz.prog 117 #[.int .i64 z] w fun e w' => e = .returned (.int .i64 (zbx z)) ∧ w' = w := by
 by_cases hz : 0 ≤ z ∧ z < 11
 · have : z = 0 ∨ z = 1 ∨ z = 2 ∨ z = 3 ∨ z = 4 ∨ z = 5 ∨ z = 6 ∨ z = 7 ∨ z = 8 ∨ z = 9 ∨ z = 10 := by omega
   rcases this with rfl | rfl | rfl | rfl | rfl | rfl | rfl | rfl | rfl | rfl | rfl
   all_goals
    go_enter Tryz.func117, Tryz.ntmps117
    go_wp2_with (go_at_call 128; refine (ze9 _ _).mono ?_; rintro e' w' ⟨rfl, hww⟩; subst w')
    go_ret
    exact ⟨by first | rfl | kernel_rfl, rfl⟩
 · have e : Hid (zbx z = 0) := by unfold Hid zbx; rw [if_pos (by omega)]
   by_cases h0 : z < 0
   · go_enter Tryz.func117, Tryz.ntmps117
     go_wp2_with (go_at_call 128; refine (ze9 _ _).mono ?_; rintro e' w' ⟨rfl, hww⟩; subst w')
     go_ret
     exact ⟨by rw [e.out]; rfl, rfl⟩
   · have h11 : 11 ≤ z := by omega
     go_enter Tryz.func117, Tryz.ntmps117
     go_wp2_with (go_at_call 128; refine (ze9 _ _).mono ?_; rintro e' w' ⟨rfl, hww⟩; subst w')
     go_ret
     exact ⟨by rw [e.out]; rfl, rfl⟩
end Go.Proofs.YthfalocligkamaaGreatDoor
namespace Go.Proofs.YthfalocligkamaaGreatDoor
open Go Go.RowKit Go.Shelf
structure EmPend (w : World) (b : Nat) (V : SV) (sd se sp : Sl) (E : Em) (e : List Int) (w' : World) (s' : Sl) : Prop where
 blk : w'.blk b = hoA V E.now.num (emR sd se sp E.err)
 free : w'.free b = true
 pend : Rows' w' s' 3 (E.pend ++ [e])
 pendR : Room w' s' 3
 kept : Kept sp.owns w w'
 own : ∀ k, s'.owns k → sp.owns k ∨ (w.heap.size ≤ k ∧ k < w'.heap.size)
theorem z6y {w W1 w' : World} {b : Nat} {V : SV} {sd se sp s' : Sl} {E : Em} {e : List Int} (R : RepE w b V sd se sp E) (he : e.length = 3) (g : Grow w W1) (c1 : Cells w' s' 3 (zea E.pend ++ zea [e])) (c2 : Room w' s' 3) (c3 : Kept sp.owns W1 w')
 (c4 : ∀ k, s'.owns k → sp.owns k ∨ (W1.heap.size ≤ k ∧ k < w'.heap.size)) : EmPend w b V sd se sp E e w' s' := by
 have hl := R.host.lt
 have hg := R.host.grow g
 have hl1 := hg.lt
 refine ⟨by rw [c3.blk b hl1 R.apP, hg.blk], by rw [c3.free b hl1 R.apP]; exact hg.free, ?_, c2, (g.kept _).trans c3 (fun _ _ h => h), fun k hk => ?_⟩
 · exact Cells.rows (by rw [zgl]; exact c1) (by omega) (zh6 R.pend.wid (fun i hi => by
    have : i = 0 := by simp at hi; omega
    subst this; exact he))
 · rcases c4 k hk with h | h
   · exact Or.inl h
   · exact Or.inr ⟨Nat.le_trans g.size h.1, h.2⟩
theorem EmPend.post {w w' : World} {b : Nat} {own : Nat → Prop} {V : SV} {sd se sp s' : Sl} {E : Em} {e : List Int} (h : EmPend w b V sd se sp E e w' s') (R : RepE w b V sd se sp E) (ho : ∀ k, own k ↔ zht b V sd se sp k) :
 EPost w b own { E with pend := E.pend ++ [e] } (w'.setRow b (hoA V E.now.num (emR sd se s' E.err))) := by
 have hl := R.host.lt
 have nb : ¬ s'.owns b := fun hb => by
  rcases h.own b hb with h1 | h1
  · exact R.apP h1
  · omega
 have k1 : Kept (fun k => k = b) w' (w'.setRow b (hoA V E.now.num (emR sd se s' E.err))) := (Kept.refl _ _).setRow b _ (fun _ => rfl)
 have hlt : ∀ k, s'.owns k → k < w'.heap.size := fun k hk => by
  rcases h.own k hk with h1 | h1
  · have := R.inP k h1; have := h.kept.size; omega
  · exact h1.2
 have hV := R.host.rep.kept h.kept (fun k hk => (R.apVE k hk).2)
 have hsz := h.kept.size
 refine ⟨zht b V sd se s', ⟨V, sd, se, s', ⟨⟨by rw [zer _ _ _ _ h.free, if_pos rfl], by rw [zd1]; exact h.free, hV.kept k1 (fun k hk e => R.host.apart (by have e : k = b := e; rw [← e]; exact hk)), R.host.apart, fun k hk => ?_⟩, ?_, ?_, ?_, ?_, ?_, ?_, ?_, ?_, R.apD, R.apE, nb, fun k hk => ⟨(R.apVE k hk).1, fun h2 => ?_⟩, fun k hk => ⟨(R.apDE k hk).1, fun h2 => ?_⟩, fun k hk h2 => ?_⟩, fun _ => Iff.rfl⟩, ?_, fun k hk => ?_⟩
 · rw [size_setRow]; have := R.host.in' k hk; omega
 · exact (R.drs.kept h.kept (fun hl => (R.apDE _ (zbs R.drs hl)).2)).kept k1 (fun hl e => R.apD (by have e : sd.b = b := e; rw [← e]; exact zbs R.drs hl))
 · exact (R.evs.kept h.kept (fun hl => R.apEP _ (zbn R.evs hl))).kept k1 (fun hl e => R.apE (by have e : se.b = b := e; rw [← e]; exact zbn R.evs hl))
 · exact (R.evR.kept h.kept (fun k hk => R.apEP _ hk)).kept k1 (fun k hk e => R.apE (by have e : k = b := e; rw [← e]; exact hk))
 · exact h.pend.kept k1 (fun hl e => nb (by have e : s'.b = b := e; rw [← e]; exact zbn h.pend hl))
 · exact h.pendR.kept k1 (fun k hk e => nb (by have e : k = b := e; rw [← e]; exact hk))
 · exact fun k hk => by rw [size_setRow]; have := R.inD k hk; omega
 · exact fun k hk => by rw [size_setRow]; have := R.inE k hk; omega
 · exact fun k hk => by rw [size_setRow]; exact hlt k hk
 · rcases h.own k h2 with h1 | h1
   · exact (R.apVE k hk).2 h1
   · have := R.host.in' k hk; omega
 · rcases h.own k h2 with h1 | h1
   · exact (R.apDE k hk).2 h1
   · have := R.inD k hk; omega
 · rcases h.own k h2 with h1 | h1
   · exact R.apEP k hk h1
   · have := R.inE k hk; omega
 · exact (h.kept.mono (o2 := own) (fun k _ h => (ho k).2 (Or.inr (Or.inr (Or.inr (Or.inr h)))))).trans k1 (fun k _ e => (ho k).2 (Or.inl e))
 · rcases hk with h1 | h1 | h1 | h1 | h1
   · exact Or.inl ((ho k).2 (Or.inl h1))
   · exact Or.inl ((ho k).2 (Or.inr (Or.inl h1)))
   · exact Or.inl ((ho k).2 (Or.inr (Or.inr (Or.inl h1))))
   · exact Or.inl ((ho k).2 (Or.inr (Or.inr (Or.inr (Or.inl h1)))))
   · rcases h.own k h1 with h2 | h2
     · exact Or.inl ((ho k).2 (Or.inr (Or.inr (Or.inr (Or.inr h2)))))
     · exact Or.inr ⟨h2.1, by rw [size_setRow]; exact h2.2⟩
theorem zpy {w : World} {b : Nat} {cs : Array Value} (hf : w.free b = true) (h : w.blk b = cs) : w.setRow b cs = w := by
 subst h
 obtain ⟨t, e⟩ := zqo hf
 have h : (w.setRow b (w.blk b)).heap = w.heap := by
  apply Array.ext_getElem?
  intro k
  simp only [World.setRow, Array.getElem?_modify]
  by_cases hk : b = k
  · subst hk; rw [if_pos rfl, e]; rfl
  · rw [if_neg hk]
 have h2 : w.setRow b (w.blk b) = { w with heap := (w.setRow b (w.blk b)).heap } := rfl
 rw [h2, h]
set_option maxRecDepth 100000 in
set_option maxHeartbeats 2000000 in
theorem zqn (w : World) (b : Nat) (own : Nat → Prop) (E : Em) (R : Emt w b own E) :
 Calls Tryz.prog 26 #[.pointer (some ⟨b, 0, none⟩), .nilIface] w fun e w' => e = .returned (.tuple #[]) ∧ Grow w w' := by
 obtain ⟨V, sd, se, sp, hr, ho⟩ := R
 have hH := hr.host
 have hcell := zaf (hH).free (hH).blk; have hfz := zah (hH).free; have hset := zag (hH).free (hH).blk; have hblk := (hH).blk; have hfree := (hH).free; have hlt := (hH).lt; have hne1 : ¬ b = (w).heap.size := (by omega); have hne2 : ¬ (w).heap.size = b := (by omega)
 have hc40 := hr.errCell
 clear hr ho hH
 by_cases he : E.err = 0
 · rw [he, za4] at hc40
   have hs := hset 40 (errV 0)
   rw [zlr, ← he, zpy hfree hblk, he, za4] at hs
   clear hset hcell he hblk
   go_enter Tryz.func26, Tryz.ntmps26
   go_wp2_with fail
   go_end0
   exact ⟨rfl, grI⟩
 · rw [zap he] at hc40
   clear hset hcell he hblk
   go_enter Tryz.func26, Tryz.ntmps26
   go_wp2_with fail
   go_end0
   exact ⟨rfl, grI⟩
@[go_sem ↓] theorem z53 (ρ : Operand → Value) (dst : Option Tmp) (x y : Operand) (ty : TypeId) (pos : String) (after : Array Edge) (guard : Option (Nat × Bool)) :
 execOp ρ { dst, op := .store 80 x y, type := ty, pos, after, guard } = zaz 80 (ρ x) (ρ y) := rfl
@[go_sem] theorem zu3 (w : World) (b o : Nat) (s : Sl) (h : (w.cell? ⟨b, o, none⟩).isSome = true) (hf : w.frozen? ⟨b, o, none⟩ = false) : (zaz 80 (.pointer (some ⟨b, o, none⟩)) s.val).run Tryz.prog w = .ok .skip (w.setCell ⟨b, o, none⟩ s.val) :=
 zcf w b o 80 s (by kernel_rfl) h hf
@[go_sem] theorem zu4 (w : World) (b o sb so n c : Nat) (h : (w.cell? ⟨b, o, none⟩).isSome = true) (hf : w.frozen? ⟨b, o, none⟩ = false) : (zaz 80 (.pointer (some ⟨b, o, none⟩)) (.slice (some ⟨sb, so, none⟩) n c)).run Tryz.prog w = .ok .skip (w.setCell ⟨b, o, none⟩ (.slice (some ⟨sb, so, none⟩) n c)) :=
 zcf w b o 80 (.mk sb so n c) (by kernel_rfl) h hf
@[go_sem ↓] theorem z5p (ρ : Operand → Value) (dst : Option Tmp) (x : Operand) (ty : TypeId) (pos : String) (after : Array Edge) (guard : Option (Nat × Bool)) :
 execOp ρ { dst, op := .load 176 x, type := ty, pos, after, guard } = za3 176 (ρ x) := rfl
@[go_sem ↓] theorem z4e (ρ : Operand → Value) (dst : Option Tmp) (x y : Operand) (ty : TypeId) (pos : String) (after : Array Edge) (guard : Option (Nat × Bool)) :
 execOp ρ { dst, op := .store 176 x y, type := ty, pos, after, guard } = zaz 176 (ρ x) (ρ y) := rfl
@[go_sem] theorem zu0 (w : World) (b o : Nat) (h : o + 3 ≤ (w.blk b).size) : (za3 176 (.pointer (some ⟨b, o, none⟩))).run Tryz.prog w = .ok (.value (.agg (sub (w.blk b) o 3))) w :=
 zaw w b o 176 3 (by kernel_rfl) (by kernel_rfl) h (by omega)
@[go_sem] theorem ztt (w : World) (b : Nat) (cs : Array Value) (h : (w.blk b).size = 3) (hc : cs.size = 3) (h1 : zai cs = true) (hf : w.free b = true) : (zaz 176 (.pointer (some ⟨b, 0, none⟩)) (.agg cs)).run Tryz.prog w = .ok .skip (w.setRow b cs) :=
 zax w b 176 3 _ (by kernel_rfl) h hc (by omega) hf h1
@[go_sem ↓] theorem z0i (ρ : Operand → Value) (dst : Option Tmp) (parts : Array (Nat × Operand)) (ty : TypeId) (pos : String) (after : Array Edge) (guard : Option (Nat × Bool)) :
 execOp ρ { dst, op := .build 176 parts, type := ty, pos, after, guard } = za0 176 (parts.map fun (i, x) => (i, ρ x)) := rfl
@[go_sem] theorem ztn (w : World) (a b c : Int) : (za0 176 #[(0, .int .i64 a), (1, .int .i64 b), (2, .int .i64 c)]).run Tryz.prog w = .ok (.value (.agg (cellsOf [a, b, c]))) w := by kernel_rfl
@[go_sem ↓] theorem z41 (ρ : Operand → Value) (dst : Option Tmp) (n : Nat) (parts : Array (Nat × Operand)) (ty : TypeId) (pos : String) (after : Array Edge) (guard : Option (Nat × Bool)) :
 execOp ρ { dst, op := .buildSlice 80 n parts, type := ty, pos, after, guard } = zdh 80 n (parts.map fun (i, x) => (i, ρ x)) := rfl
@[go_sem] theorem z8e (w : World) (a b c : Int) : (zdh 80 1 #[(0, .agg (cellsOf [a, b, c]))]).run Tryz.prog w = .ok (.value (.slice (some ⟨w.heap.size, 0, none⟩) 1 1)) (w.alloc (.cells (cellsOf [a, b, c]) 176)) := by kernel_rfl
def Em.pendTo (E : Em) (id ctl : Int) (l : List Int) (k : Nat) : Em := { E with pend := E.pend ++ (l.take k).map fun i => [id, i, ctl] }
theorem zpi (E : Em) (id ctl : Int) (l : List Int) (k : Nat) (h : k < l.length) : E.pendTo id ctl l (k + 1) = { E.pendTo id ctl l k with pend := (E.pendTo id ctl l k).pend ++ [[id, gt l k, ctl]] } := by
 unfold Em.pendTo
 have : l.take (k + 1) = l.take k ++ [gt l k] := by
  rw [List.take_succ_eq_append_getElem h]
  simp [gt, h]
 simp [this]
theorem zpj (E : Em) (id ctl : Int) (l : List Int) : E.pendTo id ctl l 0 = E := by
 unfold Em.pendTo
 simp
set_option maxRecDepth 100000 in
set_option maxHeartbeats 8000000 in
theorem zvg (w : World) (b : Nat) (own : Nat → Prop) (E : Em) (R : Emt w b own E) (n : Nat) (K : EmOk E n) (hn : n + 2 ≤ 1000000) (a : Nat) (ha : a < E.now.objs.length) (h0 : 0 ≤ gt (rowAt E.now.objs a) 0) (h1 : gt (rowAt E.now.objs a) 0 < 120) (wh ctl : Int) :
 Calls Tryz.prog 118 #[.pointer (some ⟨b, 0, none⟩), .int .i64 (a : Int), .int .i64 wh, .int .i64 ctl] w fun r w' => r = .returned (.tuple #[]) ∧ EPost w b own (E.await a wh ctl) w' := by
 have hown := R.lt
 have HR0 := Lib.hid R
 have HFN := Lib.hid (fun W (g : Grow w W) => zqn W b own E (R.grow g))
 have hpl := K.pend
 obtain ⟨V, sd, se, sp, hr, ho⟩ := R
 have hoc := hr.host.rep.objs.cell a 0 ha (by omega)
 have hN := hr.host.rep.objs.len
 have hob := (zbd hoc).1
 rw [Nat.add_zero] at hoc
 have hH := hr.host
 have hcell := zaf (hH).free (hH).blk; have hfz := zah (hH).free; have hset := zag (hH).free (hH).blk; have hblk := (hH).blk; have hfree := (hH).free; have hlt := (hH).lt; have hne1 : ¬ b = (w).heap.size := (by omega); have hne2 : ¬ (w).heap.size = b := (by omega)
 have HL := Lib.hid hown
 clear hr ho hH hblk hown K
 unfold Em.await
 rw [Int.toNat_natCast, if_pos ⟨h0, h1⟩]
 obtain ⟨c, hc⟩ := Int.eq_ofNat_of_zero_le h0
 rw [hc] at hoc h1 ⊢
 rw [Int.toNat_natCast]
 have hc120 : c < 120 := by omega
 have hu2 := zod c wh
 have ha1 : (a : Int) < E.now.objs.length := by omega
 have HCa := Lib.hid (fun W => zqg W c hc120)
 have hab : (zcs c).abs.length ≤ 1000 := Nat.le_trans (zgw c) (by omega)
 have HUs := Lib.hid (fun W (cc : CdV) m (h : CardOk W m cc (zcs c)) => zmm W cc (zcs c) m h wh hab)
 have hz := zpj E a ctl (usesN (zcs c).abs wh)
 have hfin : { E with pend := E.pend ++ (usesN (zcs c).abs wh).map fun i => [(a : Int), i, ctl] } = E.pendTo a ctl (usesN (zcs c).abs wh) (usesN (zcs c).abs wh).length := by unfold Em.pendTo; rw [List.take_length]
 rw [hfin]
 have HPT := Lib.hid (zpi E a ctl (usesN (zcs c).abs wh))
 have HZ := Lib.hid hz
 generalize usesN (zcs c).abs wh = l at *
 clear h0 h1 hc hfin hz hab
 go_enter Tryz.func118, Tryz.ntmps118
 go_wp2_with (first | (go_at_call 130; refine (HCa.out _).mono ?_; rintro e' w' ⟨cc, rfl, hC, nx, rfl⟩; (try simp only [zae] at hC); (try simp only [zad] at hC); have HC := Lib.hid hC; clear hC) | (go_at_call 26; refine (HFN.out _ grI).mono ?_; rintro e' w' ⟨rfl, nx, rfl⟩) | (go_at_call 144; refine (HUs.out _ _ _ (HC.out.grow grI)).mono ?_; rintro e' w' ⟨s, rfl, hI, hos, ny, rfl⟩; (try simp only [zae] at hI); (try simp only [zad] at hI); have HI := Lib.hid hI; have HOS := Lib.hid hos; have hsn := hI.len; clear hI hos))
 rename_i nx0
 have hG : Grow w (((w.plus nx0).alloc (.cells cc.arr 99)).plus (nx.and ny)) := grI
 have hI := HI.out
 have hos : ∀ k, s.owns k → ¬ own k := fun k hk hk2 => by
  have h1 := HOS.out k hk
  have h2 := HL.out k hk2
  simp only [zac, zaa] at h1
  omega
 have hem : Emt (((w.plus nx0).alloc (.cells cc.arr 99)).plus (nx.and ny)) b own E := HR0.out.grow hG
 clear HI HOS HC
 generalize ((w.plus nx0).alloc (.cells cc.arr 99)).plus (nx.and ny) = W1 at *
 have HI := Lib.hid hI
 have HOS := Lib.hid hos
 have HEM := Lib.hid hem
 have HG := Lib.hid hG
 clear hI hos hem hG hcell hfz hset hfree
 go_loopw [32] (fun i wr => ∃ (k : Nat) (ownk : Nat → Prop), k ≤ l.length ∧ i = .int .i64 k ∧ Turn W1 b own (E.pendTo a ctl l k) wr ownk) (fun i _ => l.length - (intOf i).toNat)
 case atStart => exact ⟨0, own, by omega, rfl, by rw [HZ.out]; exact Turn.first HEM.out⟩
 case round =>
  obtain ⟨k, ownk, hk, rfl, hTu⟩ := hrel
  have HTu := Lib.hid hTu
  by_cases hlt : k < l.length
  · obtain ⟨q1, q2⟩ := (HI.out.kept hTu.kept (fun hl => HOS.out _ (zbs HI.out hl))).at k hlt
    have hpk : (E.pendTo a ctl l k).pend.length ≤ n + 2 := by unfold Em.pendTo; simp; omega
    have HS := Lib.hid (HPT.out k hlt)
    generalize gt l k = x at *
    generalize E.pendTo a ctl l k = Ek at *
    obtain ⟨V2, sd2, se2, sp2, hr2, ho2⟩ := hTu.em
    have hH2 := hr2.host
    have hcell2 := zaf hH2.free hH2.blk
    have hfz2 := zah hH2.free
    have hset2 := zag hH2.free hH2.blk
    have hfree2 := hH2.free
    have hlt2 := hH2.lt
    have hspn : sp2.n = Ek.pend.length := hr2.pend.len
    have hne3 : ¬ b = wr.heap.size := by omega
    have hne4 : ¬ wr.heap.size = b := by omega
    have HR2 := Lib.hid hr2
    have HO2 := Lib.hid ho2
    clear hTu hr2 ho2 hH2
    go_wp2_with (at_builtin; refine zgp rfl _ _ 80 rfl 176 Tryz.t176 (.agg (cellsOf (List.replicate 3 0))) 3 24 Tryz.underlying80 (by kernel_rfl) (by kernel_rfl) (by kernel_rfl) (by kernel_rfl) (by omega) rfl sp2 (.mk _ 0 1 1) (zea Ek.pend) (zea [[(a : Int), x, ctl]]) rfl rfl (HR2.out.pend.cells.grow grI) (HR2.out.pendR.grow grI) (zd4 _ _ 3 [(a : Int), x, ctl] rfl (by go_simp)) (zck _) (zck _) (by rw [hspn]; show Ek.pend.length + 1 ≤ 4194304; omega) ?_; intro s' w' c1 c2 c3 c4 c5 c6; have hS := z6y HR2.out (e := [(a : Int), x, ctl]) rfl grI c1 c2 c3 c4; have hq3 := hS.blk; have hqf3 := hS.free; have hqc := zaf hqf3 hq3; have hqz := zah hqf3; have hqs3 := zag hqf3 hq3; have HSP := Lib.hid hS; clear hS hq3 c1 c2 c3 c4 c5 c6)
    go_roundw
    case rel =>
     obtain ⟨own3, T3⟩ := HTu.out.step (Grow.refl _) (HSP.out.post HR2.out HO2.out)
     exact ⟨k + 1, own3, by omega, by go_num, by rw [HS.out]; exact T3⟩
    case measure => simp [intOf]; omega
  · have hkl : k = l.length := by omega
    subst hkl
    clear hTu
    go_wp2_with fail
    go_end0
    exact ⟨rfl, HTu.out.post HG.out⟩
end Go.Proofs.YthfalocligkamaaGreatDoor
namespace Go.Proofs.YthfalocligkamaaGreatDoor
open Go Go.RowKit Go.Shelf
theorem zi6 (E : Em) (e : List Int) (h0 : gt e 0 ≠ 0) (h5 : gt e 0 ≠ 5) : (E.do1 e).now.objs.length = E.now.objs.length := by
 unfold Em.do1
 split
 · rfl
 · cases hd : zen E.now e with
   | error m => rfl
   | ok S =>
     have : S.objs.length = E.now.objs.length := by
      unfold zen at hd
      by_cases c : evCheck e ≠ 0
      · rw [if_pos c] at hd; cases hd
      rw [if_neg c, if_neg h0, if_neg h5] at hd
      split at hd
      · unfold zhx at hd
        split at hd
        · cases hd
        split at hd
        · cases hd
        split at hd
        · cases hd
        cases hd
        simp [zbt]
      split at hd
      · split at hd
        · cases hd
        split at hd
        · cases hd
        cases hd
        exact zc6 _ _ _ _
      · simp only at hd
        generalize (if gt e 0 = 3 then (gt e 1).toNat * 9 + (gt e 2).toNat else 18 + (gt e 2).toNat) = q at hd
        split at hd
        · cases hd
        cases hd
        rfl
     show (if E.evs.length < 65536 then _ else _ : Em).now.objs.length = _
     split <;> exact this
theorem zg2 (E : Em) (n : Int) : (E.fail n).now = E.now := by unfold Em.fail; split <;> rfl
theorem zcy (E : Em) (id f v : Int) : (E.setObj id f v).now.objs.length = E.now.objs.length := by
 unfold Em.setObj
 split
 · rfl
 · split
   · exact zi6 _ _ (by simp [gt]) (by simp [gt])
   · unfold Em.set
     split
     · rw [zg2]
     · exact zi6 _ _ (by simp [gt]) (by simp [gt])
theorem zvw : ∀ (l : List (List Int)) (E : Em), (∀ e ∈ l, gt e 0 ≠ 0 ∧ gt e 0 ≠ 5) → (E.dos l).now.objs.length = E.now.objs.length
 | [], E, _ => rfl
 | e :: l, E, h => by
   have h1 := h e (by simp)
   show ((E.do1 e).dos l).now.objs.length = _
   rw [zvw l (E.do1 e) (fun x hx => h x (by simp [hx])), zi6 E e h1.1 h1.2]
theorem zhl (E : Em) (id p : Int) : (E.show id p).now.objs.length = E.now.objs.length := by
 unfold Em.show
 split
 · rfl
 · refine zvw _ _ (fun e he => ?_)
   unfold showEv at he
   split at he
   · cases he
   · split at he
     · cases he
     · rw [List.mem_singleton] at he; subst he; exact ⟨by simp [gt], by simp [gt]⟩
theorem EmOk.show {E : Em} {n : Nat} (h : EmOk E n) (id p : Int) : EmOk (E.show id p) (n + 1) := by
 unfold Em.show
 split
 · exact h.mono (Nat.le_succ n)
 · have := zh3 E.now id p
   exact (h.dos _).mono (by omega)
def Em.restTo (E : Em) (id : Int) (k : Nat) : Em := (restL.take k).foldl (fun E f => E.setObj id f 0) E
theorem zdl (E : Em) (id : Int) (k : Nat) (h : k < 9) : E.restTo id (k + 1) = (E.restTo id k).setObj id (gt restL k) 0 := by
 unfold Em.restTo
 have : restL.take (k + 1) = restL.take k ++ [gt restL k] := by
  have : k = 0 ∨ k = 1 ∨ k = 2 ∨ k = 3 ∨ k = 4 ∨ k = 5 ∨ k = 6 ∨ k = 7 ∨ k = 8 := by omega
  rcases this with rfl | rfl | rfl | rfl | rfl | rfl | rfl | rfl | rfl <;> rfl
 rw [this, List.foldl_append]; rfl
theorem zf3 (E : Em) (id : Int) : ∀ k, k ≤ 9 → (E.restTo id k).now.objs.length = E.now.objs.length
 | 0, _ => rfl
 | k + 1, h => by rw [zdl E id k (by omega), zcy, zf3 E id k (by omega)]
theorem EmOk.restTo {E : Em} {n : Nat} (h : EmOk E n) (id : Int) : ∀ k, k ≤ 9 → EmOk (E.restTo id k) (n + k)
 | 0, _ => h
 | k + 1, hk => by rw [zdl E id k (by omega)]; exact (h.restTo id k (by omega)).setObj _ _ _
theorem z7g (o : List Int) {base : Int} (hb : zgv base = true) : 0 ≤ zfk o base ∧ zfk o base < 11 := by
 unfold zfk zkn
 generalize gt o 1 = p
 generalize gt o 13 = k
 have hp : p = 0 ∨ p = 1 ∨ ¬ (p = 0 ∨ p = 1) := by omega
 rcases zqe hb with rfl | rfl | rfl | rfl | rfl | rfl | rfl <;> rcases hp with rfl | rfl | hp <;> simp [*] <;> split <;> omega
theorem zg0 (E : Em) (e : List Int) (h0 : gt e 0 ≠ 0) (h5 : gt e 0 ≠ 5) (h2 : gt e 0 = 2 → (gt e 2).toNat ≠ 0) (i : Nat) : gt (rowAt (E.do1 e).now.objs i) 0 = gt (rowAt E.now.objs i) 0 := by
 unfold Em.do1
 split
 · rfl
 · cases hd : zen E.now e with
   | error m => rfl
   | ok S =>
     have hset : ∀ (a f : Nat) (v : Int), a < E.now.objs.length → f ≠ 0 → gt (rowAt (E.now.objs.set a ((rowAt E.now.objs a).set f v)) i) 0 = gt (rowAt E.now.objs i) 0 := fun a f v ha hf => by
      rw [zb5 _ _ _ _ ha]
      split
      · rename_i e1
        subst e1
        unfold gt List.getD
        rw [List.getElem?_set_ne hf]
      · rfl
     have : gt (rowAt S.objs i) 0 = gt (rowAt E.now.objs i) 0 := by
      unfold zen at hd
      by_cases c : evCheck e ≠ 0
      · rw [if_pos c] at hd; cases hd
      rw [if_neg c, if_neg h0, if_neg h5] at hd
      split at hd
      · unfold zhx at hd
        split at hd
        · cases hd
        rename_i hA
        split at hd
        · cases hd
        split at hd
        · cases hd
        cases hd
        exact hset _ 3 _ (by omega) (by decide)
      split at hd
      · rename_i k2
        split at hd
        · cases hd
        rename_i hA
        split at hd
        · cases hd
        cases hd
        by_cases hn : (gt e 1).toNat < E.now.objs.length
        · exact hset _ _ _ hn (h2 k2)
        · show gt (rowAt (E.now.objs.set _ _) i) 0 = _
          rw [List.set_eq_of_length_le (by omega)]
      · simp only at hd
        generalize (if gt e 0 = 3 then (gt e 1).toNat * 9 + (gt e 2).toNat else 18 + (gt e 2).toNat) = q at hd
        split at hd
        · cases hd
        cases hd
        rfl
     show gt (rowAt (if E.evs.length < 65536 then _ else _ : Em).now.objs i) 0 = _
     split <;> exact this
theorem zcx (E : Em) (id f v : Int) (hf : f.toNat ≠ 0) (i : Nat) : gt (rowAt (E.setObj id f v).now.objs i) 0 = gt (rowAt E.now.objs i) 0 := by
 unfold Em.setObj
 split
 · rfl
 · split
   · exact zg0 _ _ (by simp [gt]) (by simp [gt]) (fun _ => by simpa [gt] using hf) i
   · unfold Em.set
     split
     · rw [zg2]
     · exact zg0 _ _ (by simp [gt]) (by simp [gt]) (fun _ => by simpa [gt] using hf) i
theorem zqk : ∀ (l : List (List Int)) (E : Em), (∀ e ∈ l, gt e 0 ≠ 0 ∧ gt e 0 ≠ 5 ∧ (gt e 0 = 2 → (gt e 2).toNat ≠ 0)) → ∀ i, gt (rowAt (E.dos l).now.objs i) 0 = gt (rowAt E.now.objs i) 0
 | [], E, _, _ => rfl
 | e :: l, E, h, i => by
   obtain ⟨h1, h2, h3⟩ := h e (by simp)
   show gt (rowAt ((E.do1 e).dos l).now.objs i) 0 = _
   rw [zqk l (E.do1 e) (fun x hx => h x (by simp [hx])) i, zg0 E e h1 h2 h3 i]
theorem zfq (E : Em) (id p : Int) (i : Nat) : gt (rowAt (E.show id p).now.objs i) 0 = gt (rowAt E.now.objs i) 0 := by
 unfold Em.show
 split
 · rfl
 · refine zqk _ _ (fun e he => ?_) i
   unfold showEv at he
   split at he
   · cases he
   · split at he
     · cases he
     · rw [List.mem_singleton] at he; subst he; exact ⟨by simp [gt], by simp [gt], fun _ => by simp [gt]⟩
theorem ze7 (E : Em) (id : Int) : ∀ k, k ≤ 9 → ∀ i, gt (rowAt (E.restTo id k).now.objs i) 0 = gt (rowAt E.now.objs i) 0
 | 0, _, _ => rfl
 | k + 1, h, i => by
   rw [zdl E id k (by omega), zcx _ _ _ _ ?_ i, ze7 E id k (by omega) i]
   have : k = 0 ∨ k = 1 ∨ k = 2 ∨ k = 3 ∨ k = 4 ∨ k = 5 ∨ k = 6 ∨ k = 7 ∨ k = 8 := by omega
   rcases this with rfl | rfl | rfl | rfl | rfl | rfl | rfl | rfl | rfl <;> decide
end Go.Proofs.YthfalocligkamaaGreatDoor
