/- The walks of rand, and of judge's draws. -/
import Derived.Test.YtgobdndjemicjaaGreatDoorMDo
import Derived.Deep.Light
import Derived.Test.YtgobdndjemicjaaGreatDoorMEv2
namespace Go.Proofs.YtgobdndjemicjaaGreatDoor
open Go Go.RowKit
def ya0 (d n : Int) : Int := if d.tmod n < 0 then d.tmod n + n else d.tmod n
end Go.Proofs.YtgobdndjemicjaaGreatDoor
namespace Go.Proofs.YtgobdndjemicjaaGreatDoor
open Go Go.RowKit
def z8u (l : List Int) (c n : Int) : Int × Int × Int :=
 if 4096 < l.length then (0, 0, 19) else if n < 1 ∨ c < 0 then (0, 0, 1) else if (l.length : Int) ≤ c then (0, 0, 13) else (ya0 (gt l c.toNat) n, c + 1, 0)
end Go.Proofs.YtgobdndjemicjaaGreatDoor
namespace Go.Proofs.YtgobdndjemicjaaGreatDoor
open Go Go.RowKit
set_option maxRecDepth 100000 in
theorem zza (S : St) (V : SV) (w : World) (R : RepSt w V S) (id p : Int) (h : id < 0 ∨ (S.objs.length : Int) ≤ id) : Calls Tryz.prog 134 #[.agg (stA V S.num), .int .i64 id, .int .i64 p] w fun e w' => e = .returned Sl.nil.val ∧ Grow w w' := by
 have hN := R.objs.len
 by_cases h0 : id < 0
 · go_enter Tryz.func134, Tryz.ntmps134
   go_wp2_with go_in
   all_goals (go_ret; exact ⟨rfl, grI⟩)
 · have h1 : (S.objs.length : Int) ≤ id := by omega
   clear h
   go_enter Tryz.func134, Tryz.ntmps134
   go_wp2_with go_in
   all_goals (go_ret; exact ⟨rfl, grI⟩)
def zdp (was p : Int) : Int := bits BinOp.or .i64 was (bits BinOp.and .i64 p 3)
def showEv (S : St) (id : Int) (p : Int) : List (List Int) :=
 if id < 0 ∨ (S.objs.length : Int) ≤ id then []
 else if zdp (gt (rowAt S.objs id.toNat) 17) p = gt (rowAt S.objs id.toNat) 17 then []
 else [[2, id, 17, gt (rowAt S.objs id.toNat) 17, zdp (gt (rowAt S.objs id.toNat) 17) p, 0]]
theorem z8t (w : World) (t : TypeId) (k : Nat) (r : List Int) (hr : r.length = k) : Own (w.alloc (.cells (cellsOf r) t)) (.mk w.heap.size 0 1 1) t k w.heap.size (zci [r]) := by
 refine ⟨zdc _ _ k r hr (by rw [zct, if_pos rfl]), by simp [Sl.c, maxLen], rfl, fun b hb => ?_⟩
 have hb : b = w.heap.size := hb
 subst hb
 exact ⟨Nat.le_refl _, cellsOf r, heap_alloc_new w _, by simp [cellsOf, hr, Sl.c]⟩
set_option maxRecDepth 100000 in
set_option maxHeartbeats 1000000 in
theorem zzc (S : St) (V : SV) (w : World) (R : RepSt w V S) (d : Nat) (p : Int) (h : d < S.objs.length) (hs : zdp (gt (rowAt S.objs d) 17) p = gt (rowAt S.objs d) 17) : Calls Tryz.prog 134 #[.agg (stA V S.num), .int .i64 d, .int .i64 p] w fun e w' => e = .returned Sl.nil.val ∧ Grow w w' := by
 have hN := R.objs.len
 obtain ⟨hb, hw, hsz, hsub, hcell⟩ := R.objs.at (by omega) d h
 have hc := hcell 17 (by omega)
 clear hcell
 unfold zdp at hs
 generalize gt (rowAt S.objs d) 17 = was at *
 have hq : (bits BinOp.or .i64 was (bits BinOp.and .i64 p 3) == was) = true := by simpa using hs
 clear hs
 go_enter Tryz.func134, Tryz.ntmps134
 go_wp2_with go_in
 go_ret
 exact ⟨rfl, grI⟩
set_option maxRecDepth 100000 in
set_option maxHeartbeats 1000000 in
theorem zvb (S : St) (V : SV) (w : World) (R : RepSt w V S) (d : Nat) (p : Int) (h : d < S.objs.length) (hs : ¬ zdp (gt (rowAt S.objs d) 17) p = gt (rowAt S.objs d) 17) : Calls Tryz.prog 134 #[.agg (stA V S.num), .int .i64 d, .int .i64 p] w fun e w' => ∃ s' : Sl, e = .returned s'.val ∧ Own w' s' 122 6 w.heap.size (zci [[2, (d : Int), 17, gt (rowAt S.objs d) 17, zdp (gt (rowAt S.objs d) 17) p, 0]]) ∧ Grow w w' := by
 have hN := R.objs.len
 obtain ⟨hb, hw, hsz, hsub, hcell⟩ := R.objs.at (by omega) d h
 have hc := hcell 17 (by omega)
 clear hcell
 have HQ : ∀ x, zdp x p = bits BinOp.or .i64 x (bits BinOp.and .i64 p 3) := fun x => rfl
 generalize gt (rowAt S.objs d) 17 = was at *
 rw [HQ] at hs ⊢
 have hq : (bits BinOp.or .i64 was (bits BinOp.and .i64 p 3) == was) = false := by simpa using hs
 clear hs HQ
 go_enter Tryz.func134, Tryz.ntmps134
 go_wp2_with go_in
 go_ret
 refine ⟨.mk (w.heap.size + 1 + 1 + 1) 0 1 1, rfl, ?_, grI⟩
 have h1 := z8t (((w.alloc (.cells (stA V S.num) 29)).alloc (.cells #[.int .i64 p] 3)).alloc (.cells (stA V S.num) 29)) 122 6 [2, (d : Int), 17, was, bits BinOp.or .i64 was (bits BinOp.and .i64 p 3), 0] rfl
 simp only [zaa] at h1
 exact h1.mono (by omega)
theorem z4b (S : St) (V : SV) (w : World) (R : RepSt w V S) (id p : Int) : Calls Tryz.prog 134 #[.agg (stA V S.num), .int .i64 id, .int .i64 p] w fun e w' => ∃ s' : Sl, e = .returned s'.val ∧ Own w' s' 122 6 w.heap.size (zci (showEv S id p)) ∧ Grow w w' := by
 have hnil : ∀ w' : World, Own w' .nil 122 6 w.heap.size (zci []) := fun w' => ⟨⟨by simp [Sl.n, zci], Nat.le_refl _, fun j u hu => by simp [zci] at hu⟩, Nat.zero_le _, rfl, fun b h => h.elim⟩
 unfold showEv
 by_cases h : id < 0 ∨ (S.objs.length : Int) ≤ id
 · rw [if_pos h]
   refine (zza S V w R id p h).mono ?_
   rintro e w' ⟨he, hg⟩
   exact ⟨.nil, he, hnil w', hg⟩
 · rw [if_neg h]
   obtain ⟨d, rfl⟩ := Int.eq_ofNat_of_zero_le (show 0 ≤ id by omega)
   rw [Int.toNat_natCast]
   by_cases hs : zdp (gt (rowAt S.objs d) 17) p = gt (rowAt S.objs d) 17
   · rw [if_pos hs]
     refine (zzc S V w R d p (by omega) hs).mono ?_
     rintro e w' ⟨he, hg⟩
     exact ⟨.nil, he, hnil w', hg⟩
   · rw [if_neg hs]
     exact zvb S V w R d p (by omega) hs
end Go.Proofs.YtgobdndjemicjaaGreatDoor
namespace Go.Proofs.YtgobdndjemicjaaGreatDoor
open Go Go.RowKit
theorem zk3 {l : List (List Int)} {k : Nat} (h : ∀ r ∈ l, r.length = k) : ∀ i, i < l.length → (rowAt l i).length = k := fun i hi => h _ (zm3 l i hi)
theorem zva (S : St) (id p : Int) : ∀ r ∈ showEv S id p, r.length = 6 := by
 unfold showEv
 intro r hr
 split at hr
 · cases hr
 split at hr
 · cases hr
 · rw [List.mem_singleton] at hr; subst hr; rfl
end Go.Proofs.YtgobdndjemicjaaGreatDoor
namespace Go.Proofs.YtgobdndjemicjaaGreatDoor
open Go Go.RowKit
theorem zhw (l : List Int) (c : Nat) (h : c < l.length) : (l.eraseIdx c).length = l.length - 1 := List.length_eraseIdx_of_lt h
theorem zo5 (l : List (List Int)) (a : Nat) : l.set a (rowAt l a) = l := by
 by_cases h : a < l.length
 · have : rowAt l a = l[a] := by simp [rowAt, h]
   rw [this]; exact List.set_getElem_self h
 · exact List.set_eq_of_length_le (by omega)
theorem z6r (l : List Int) (i : Nat) : l.set i (gt l i) = l := by
 by_cases h : i < l.length
 · rw [zkl l i h]; exact List.set_getElem_self h
 · exact List.set_eq_of_length_le (by omega)
theorem ztf (a b c d e : Nat) (hb : b < 11) (hd : d < 11) : evCheck [1, (a : Int), b, c, d, e] = 0 := by
 unfold evCheck zbx za5 zcf inR
 simp only [gt, List.getD_cons_zero, List.getD_cons_succ]
 simp
 omega
theorem znt (S : St) (a b c d e : Nat) (hb : b < 11) (hd : d < 11) : zd5 S [1, (a : Int), b, c, d, e] = ziv S a b c d e := by
 unfold zd5
 rw [ztf a b c d e hb hd]
 simp [gt]
theorem zrr (S : St) (a b c d e : Nat) (hA : a < S.objs.length) (hc : c < (S.list b).length) (ha : gt (S.list b) c = a) (he : e ≤ (zau S b c d).length) : ziv S a b c d e = .ok (zb3 S a b c d e) := by
 unfold ziv
 rw [if_neg (by omega), if_neg (fun h => h ⟨hc, ha⟩), if_neg (by omega)]
theorem zw7 (o : List Int) (h : o.length = 18) (v : Int) : zbj (o.set 17 v) = zbj o := by
 unfold zbj
 have hg : ∀ i, i ≠ 17 → gt (o.set 17 v) i = gt o i := fun i hi => by rw [zez _ _ _ _ (by omega), if_neg (Ne.symm hi)]
 have hr : (restingL.any fun f => gt (o.set 17 v) f.val != 0) = restingL.any fun f => gt o f.val != 0 := by
  simp only [restingL, List.any_cons, List.any_nil]
  rw [hg ((4 : Fin 18).val) (by decide), hg ((5 : Fin 18).val) (by decide), hg ((6 : Fin 18).val) (by decide), hg ((7 : Fin 18).val) (by decide), hg ((8 : Fin 18).val) (by decide), hg ((9 : Fin 18).val) (by decide), hg ((10 : Fin 18).val) (by decide), hg ((11 : Fin 18).val) (by decide), hg ((12 : Fin 18).val) (by decide)]
 rw [hr, hg 3 (by decide), hg 2 (by decide), hg 1 (by decide), hg 16 (by decide)]
theorem zzl (o : List Int) (h : o.length = 18) (v z : Int) : zbh (o.set 17 v) z = zbh o z := by
 unfold zbh
 rw [zez _ _ _ _ (by omega), zez _ _ _ _ (by omega)]; rfl
theorem zb6 (S : St) (a f : Nat) (v : Int) : (S.setObj a f v).objs.length = S.objs.length := by simp [St.setObj]
theorem zck (S : St) (a f i : Nat) (v : Int) (ha : a < S.objs.length) : rowAt (S.setObj a f v).objs i = if a = i then (rowAt S.objs a).set f v else rowAt S.objs i := zby _ _ _ _ ha
theorem Right.knows {S : St} (h : Right S) (hw : ∀ i, i < S.objs.length → (rowAt S.objs i).length = 18) (a : Nat) (ha : a < S.objs.length) (v : Int) (h0 : 0 ≤ v) (h1 : v ≤ 3) : Right (S.setObj a 17 v) := by
 have hl := zb6 S a 17 v
 have hr := fun i => zck S a 17 i v ha
 have g3 : ∀ i, gt (rowAt (S.setObj a 17 v).objs i) 3 = gt (rowAt S.objs i) 3 := fun i => by
  rw [hr]; split
  · rename_i e; subst e; rw [zez _ _ _ _ (by rw [hw a ha]; omega)]; rfl
  · rfl
 have gs : ∀ i z, zbh (rowAt (S.setObj a 17 v).objs i) z = zbh (rowAt S.objs i) z := fun i z => by
  rw [hr]; split
  · rename_i e; subst e; exact zzl _ (hw a ha) _ _
  · rfl
 refine ⟨by rw [hl]; exact h.many, zfn h.ranges hw _ a 17 v ha (by omega) rfl rfl ?_, ⟨fun z hz x hx => ?_, fun id hid => ?_⟩, fun i hi => ?_⟩
 · have : inB v 0 3 = true := by simp [inB]; omega
   exact this
 · obtain ⟨p, q, r, s⟩ := h.zon.ok z hz x hx
   exact ⟨p, by rw [hl]; exact q, by rw [g3]; exact r, by rw [gs]; exact s⟩
 · exact h.zon.once id (by rw [hl] at hid; exact hid)
 · rw [hr]; split
   · rename_i e; subst e; rw [zw7 _ (hw a ha)]; exact h.formed a ha
   · exact h.formed i (by rw [hl] at hi; exact hi)
theorem Right.knowsIn {S : St} (h : Right S) (a : Nat) (ha : a < S.objs.length) : 0 ≤ gt (rowAt S.objs a) 17 ∧ gt (rowAt S.objs a) 17 ≤ 3 := by
 have h1 := ((zap S).1 h.ranges).1 a ha
 unfold zed at h1
 rw [List.all_eq_true] at h1
 have h2 := h1 17 (by simp)
 have h3 : inB (gt (rowAt S.objs a) 17) 0 3 = true := h2
 simpa [inB] using h3
theorem zi1 {S : St} (hw : ∀ i, i < S.objs.length → (rowAt S.objs i).length = 18) (a f : Nat) (v : Int) (ha : a < S.objs.length) : ∀ i, i < (S.setObj a f v).objs.length → (rowAt (S.setObj a f v).objs i).length = 18 := by
 intro i hi
 rw [zb6] at hi
 rw [zck _ _ _ _ _ ha]
 split
 · rw [List.length_set]; exact hw a ha
 · exact hw i hi
end Go.Proofs.YtgobdndjemicjaaGreatDoor
