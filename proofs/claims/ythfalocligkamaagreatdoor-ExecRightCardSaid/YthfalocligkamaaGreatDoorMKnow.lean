/- The walks of rand, and of judge's draws. -/
import Derived.Test.YthfalocligkamaaGreatDoorMDo
import Derived.Deep.Light
import Derived.Test.YthfalocligkamaaGreatDoorMEv2
namespace Go.Proofs.YthfalocligkamaaGreatDoor
open Go Go.RowKit
theorem zg5 (s : Sl) (w : World) : Calls Tryz.prog 41 #[s.val] w fun e w' => e = .returned (errV (if 4096 < s.n then 19 else 0)) ∧ w' = w := by
 by_cases h : 4096 < s.n
 · rw [if_pos h]
   go_enter Tryz.func41, Tryz.ntmps41
   go_wp2_with fail
   go_ret
   exact ⟨rfl, rfl⟩
 · rw [if_neg h]
   go_enter Tryz.func41, Tryz.ntmps41
   go_wp2_with fail
   go_ret
   exact ⟨rfl, rfl⟩
def zh1 (d n : Int) : Int := if d.tmod n < 0 then d.tmod n + n else d.tmod n
theorem zmv (d n : Int) (h0 : 0 < n) (h1 : n ≤ 9223372036854775807) (w : World) : Calls Tryz.prog 135 #[.int .i64 d, .int .i64 n] w fun e w' => e = .returned (.int .i64 (zh1 d n)) ∧ w' = w := by
 have hm := Int.tmod_lt_of_pos d h0
 have hm2 : -n < d.tmod n := by
  have := Int.tmod_lt_of_pos (-d) h0
  rw [Int.neg_tmod] at this; omega
 have hn : ¬ n = 0 := by omega
 have HB : Hid (zh1 d n = if d.tmod n < 0 then d.tmod n + n else d.tmod n) := rfl
 generalize hr : d.tmod n = r at *
 by_cases h : r < 0
 · go_enter Tryz.func135, Tryz.ntmps135
   go_wp2_with fail
   go_ret
   exact ⟨zws (by rw [HB.out, if_pos h]), rfl⟩
 · go_enter Tryz.func135, Tryz.ntmps135
   go_wp2_with fail
   go_ret
   exact ⟨zws (by rw [HB.out, if_neg (by omega)]), rfl⟩
theorem zlz (s : Sl) (c : Int) (hs : s.n ≤ 1048576) (hc : 0 ≤ c) (hc2 : c ≤ 1073741824) (w : World) : Calls Tryz.prog 133 #[s.val, .int .i64 c] w fun e w' => e = .returned (.int .i64 (max ((s.n : Int) - c) 0)) ∧ w' = w := by
 go_enter Tryz.func133, Tryz.ntmps133
 go_wp2_with fail
 go_ret
 exact ⟨rfl, rfl⟩
end Go.Proofs.YthfalocligkamaaGreatDoor
namespace Go.Proofs.YthfalocligkamaaGreatDoor
open Go Go.RowKit
def zd7 (l : List Int) (c n : Int) : Int × Int × Int :=
 if 4096 < l.length then (0, 0, 19) else if n < 1 ∨ c < 0 then (0, 0, 1) else if (l.length : Int) ≤ c then (0, 0, 13) else (zh1 (gt l c.toNat) n, c + 1, 0)
theorem zis (d n : Int) (h : 0 < n) : 0 ≤ zh1 d n ∧ zh1 d n < n := by
 have hm := Int.tmod_lt_of_pos d h
 have hm2 : -n < d.tmod n := by
  have := Int.tmod_lt_of_pos (-d) h
  rw [Int.neg_tmod] at this; omega
 unfold zh1
 split <;> omega
set_option maxRecDepth 100000 in
theorem z15 (w : World) (s : Sl) (l : List Int) (c n : Int) (R : Ints w s l) (hb : l.length ≤ 1048576) (hc : c ≤ 1073741824) (hn : n ≤ 9223372036854775807) :
 Calls Tryz.prog 142 #[s.val, .int .i64 c, .int .i64 n] w fun e w' => e = .returned (.tuple #[.int .i64 (zd7 l c n).1, .int .i64 (zd7 l c n).2.1, errV (zd7 l c n).2.2]) ∧ w' = w := by
 have hlen := R.len
 have HR := Lib.hid R
 clear R
 have HCK := Lib.hid (fun W => zg5 s W)
 by_cases h1 : 4096 < l.length
 · have e1 : zd7 l c n = (0, 0, 19) := by unfold zd7; rw [if_pos h1]
   rw [e1]
   have hck := HCK.out
   rw [hlen, if_pos h1] at hck
   have HC2 := Lib.hid hck
   clear hck e1
   go_enter Tryz.func142, Tryz.ntmps142
   go_wp2_with (go_at_call 41; refine (HC2.out _).mono ?_; rintro e' w' ⟨rfl, hww⟩; subst w')
   go_ret3
   exact ⟨rfl, rfl⟩
 · have hck := HCK.out
   rw [hlen, if_neg h1] at hck
   have HC2 := Lib.hid hck
   clear hck
   by_cases h2 : n < 1 ∨ c < 0
   · have e1 : zd7 l c n = (0, 0, 1) := by unfold zd7; rw [if_neg h1, if_pos h2]
     rw [e1]
     clear e1
     by_cases h3 : n < 1
     · go_enter Tryz.func142, Tryz.ntmps142
       go_wp2_with (go_at_call 41; refine (HC2.out _).mono ?_; rintro e' w' ⟨rfl, hww⟩; subst w')
       go_ret3
       exact ⟨rfl, rfl⟩
     · have h4 : c < 0 := by omega
       clear h2
       go_enter Tryz.func142, Tryz.ntmps142
       go_wp2_with (go_at_call 41; refine (HC2.out _).mono ?_; rintro e' w' ⟨rfl, hww⟩; subst w')
       go_ret3
       exact ⟨rfl, rfl⟩
   · have h3 : ¬ n < 1 := by omega
     have h4 : ¬ c < 0 := by omega
     by_cases h5 : (l.length : Int) ≤ c
     · have e1 : zd7 l c n = (0, 0, 13) := by unfold zd7; rw [if_neg h1, if_neg h2, if_pos h5]
       rw [e1]
       clear e1 h2
       have hmx : max ((s.n : Int) - c) 0 = 0 := by omega
       have HL := Lib.hid (fun W => zlz s c (by omega) (by omega) hc W)
       rw [hmx] at HL
       clear hmx
       go_enter Tryz.func142, Tryz.ntmps142
       go_wp2_with (first | (go_at_call 41; refine (HC2.out _).mono ?_; rintro e' w' ⟨rfl, hww⟩; subst w') | (go_at_call 133; refine (HL.out _).mono ?_; rintro e' w' ⟨rfl, hww⟩; subst w'))
       go_ret3
       exact ⟨rfl, rfl⟩
     · obtain ⟨k, rfl⟩ := Int.eq_ofNat_of_zero_le (show 0 ≤ c by omega)
       have e1 : zd7 l k n = (zh1 (gt l k) n, (k : Int) + 1, 0) := by unfold zd7; rw [if_neg h1, if_neg h2, if_neg h5, Int.toNat_natCast]
       rw [e1]
       clear e1 h2
       obtain ⟨hbb, hcc⟩ := HR.out.at k (by omega)
       have HL := Lib.hid (fun W => zlz s k (by omega) (by omega) hc W)
       generalize hq : max ((s.n : Int) - k) 0 = q at HL
       have hq2 : (q == 0) = false := by simp; omega
       clear hq
       go_enter Tryz.func142, Tryz.ntmps142
       go_wp2_with (first | (go_at_call 41; refine (HC2.out _).mono ?_; rintro e' w' ⟨rfl, hww⟩; subst w') | (go_at_call 133; refine (HL.out _).mono ?_; rintro e' w' ⟨rfl, hww⟩; subst w') | (go_at_call 135; refine (zmv _ _ (by omega) hn _).mono ?_; rintro e' w' ⟨rfl, hww⟩; subst w'))
       go_ret3
       exact ⟨rfl, rfl⟩
end Go.Proofs.YthfalocligkamaaGreatDoor
namespace Go.Proofs.YthfalocligkamaaGreatDoor
open Go Go.RowKit
set_option maxRecDepth 100000 in
theorem zxq (S : St) (V : SV) (w : World) (R : RepSt w V S) (id p : Int) (h : id < 0 ∨ (S.objs.length : Int) ≤ id) : Calls Tryz.prog 132 #[.agg (stA V S.num), .int .i64 id, .int .i64 p] w fun e w' => e = .returned Sl.nil.val ∧ Grow w w' := by
 have hN := R.objs.len
 by_cases h0 : id < 0
 · go_enter Tryz.func132, Tryz.ntmps132
   go_wp2_with go_in
   all_goals (go_ret; exact ⟨rfl, grI⟩)
 · have h1 : (S.objs.length : Int) ≤ id := by omega
   clear h
   go_enter Tryz.func132, Tryz.ntmps132
   go_wp2_with go_in
   all_goals (go_ret; exact ⟨rfl, grI⟩)
def zdh (was p : Int) : Int := bits BinOp.or .i64 was (bits BinOp.and .i64 p 3)
def showEv (S : St) (id : Int) (p : Int) : List (List Int) :=
 if id < 0 ∨ (S.objs.length : Int) ≤ id then []
 else if zdh (gt (rowAt S.objs id.toNat) 17) p = gt (rowAt S.objs id.toNat) 17 then []
 else [[2, id, 17, gt (rowAt S.objs id.toNat) 17, zdh (gt (rowAt S.objs id.toNat) 17) p, 0]]
theorem zwn (w : World) (t : TypeId) (k : Nat) (r : List Int) (hr : r.length = k) : Own (w.alloc (.cells (cellsOf r) t)) (.mk w.heap.size 0 1 1) t k w.heap.size (zdq [r]) := by
 refine ⟨zd3 _ _ k r hr (by rw [ze7, if_pos rfl]), by simp [Sl.c, maxLen], rfl, fun b hb => ?_⟩
 have hb : b = w.heap.size := hb
 subst hb
 exact ⟨Nat.le_refl _, cellsOf r, heap_alloc_new w _, by simp [cellsOf, hr, Sl.c]⟩
set_option maxRecDepth 100000 in
set_option maxHeartbeats 1000000 in
theorem zxr (S : St) (V : SV) (w : World) (R : RepSt w V S) (d : Nat) (p : Int) (h : d < S.objs.length) (hs : zdh (gt (rowAt S.objs d) 17) p = gt (rowAt S.objs d) 17) : Calls Tryz.prog 132 #[.agg (stA V S.num), .int .i64 d, .int .i64 p] w fun e w' => e = .returned Sl.nil.val ∧ Grow w w' := by
 have hN := R.objs.len
 obtain ⟨hb, hw, hsz, hsub, hcell⟩ := R.objs.at (by omega) d h
 have hc := hcell 17 (by omega)
 clear hcell
 unfold zdh at hs
 generalize gt (rowAt S.objs d) 17 = was at *
 have hq : (bits BinOp.or .i64 was (bits BinOp.and .i64 p 3) == was) = true := by simpa using hs
 clear hs
 go_enter Tryz.func132, Tryz.ntmps132
 go_wp2_with go_in
 go_ret
 exact ⟨rfl, grI⟩
set_option maxRecDepth 100000 in
set_option maxHeartbeats 1000000 in
theorem ztb (S : St) (V : SV) (w : World) (R : RepSt w V S) (d : Nat) (p : Int) (h : d < S.objs.length) (hs : ¬ zdh (gt (rowAt S.objs d) 17) p = gt (rowAt S.objs d) 17) : Calls Tryz.prog 132 #[.agg (stA V S.num), .int .i64 d, .int .i64 p] w fun e w' => ∃ s' : Sl, e = .returned s'.val ∧ Own w' s' 90 6 w.heap.size (zdq [[2, (d : Int), 17, gt (rowAt S.objs d) 17, zdh (gt (rowAt S.objs d) 17) p, 0]]) ∧ Grow w w' := by
 have hN := R.objs.len
 obtain ⟨hb, hw, hsz, hsub, hcell⟩ := R.objs.at (by omega) d h
 have hc := hcell 17 (by omega)
 clear hcell
 have HQ : ∀ x, zdh x p = bits BinOp.or .i64 x (bits BinOp.and .i64 p 3) := fun x => rfl
 generalize gt (rowAt S.objs d) 17 = was at *
 rw [HQ] at hs ⊢
 have hq : (bits BinOp.or .i64 was (bits BinOp.and .i64 p 3) == was) = false := by simpa using hs
 clear hs HQ
 go_enter Tryz.func132, Tryz.ntmps132
 go_wp2_with go_in
 go_ret
 refine ⟨.mk (w.heap.size + 1 + 1 + 1) 0 1 1, rfl, ?_, grI⟩
 have h1 := zwn (((w.alloc (.cells (stA V S.num) 29)).alloc (.cells #[.int .i64 p] 3)).alloc (.cells (stA V S.num) 29)) 90 6 [2, (d : Int), 17, was, bits BinOp.or .i64 was (bits BinOp.and .i64 p 3), 0] rfl
 simp only [zaa] at h1
 exact h1.mono (by omega)
theorem z2p (S : St) (V : SV) (w : World) (R : RepSt w V S) (id p : Int) : Calls Tryz.prog 132 #[.agg (stA V S.num), .int .i64 id, .int .i64 p] w fun e w' => ∃ s' : Sl, e = .returned s'.val ∧ Own w' s' 90 6 w.heap.size (zdq (showEv S id p)) ∧ Grow w w' := by
 have hnil : ∀ w' : World, Own w' .nil 90 6 w.heap.size (zdq []) := fun w' => ⟨⟨by simp [Sl.n, zdq], Nat.le_refl _, fun j u hu => by simp [zdq] at hu⟩, Nat.zero_le _, rfl, fun b h => h.elim⟩
 unfold showEv
 by_cases h : id < 0 ∨ (S.objs.length : Int) ≤ id
 · rw [if_pos h]
   refine (zxq S V w R id p h).mono ?_
   rintro e w' ⟨he, hg⟩
   exact ⟨.nil, he, hnil w', hg⟩
 · rw [if_neg h]
   obtain ⟨d, rfl⟩ := Int.eq_ofNat_of_zero_le (show 0 ≤ id by omega)
   rw [Int.toNat_natCast]
   by_cases hs : zdh (gt (rowAt S.objs d) 17) p = gt (rowAt S.objs d) 17
   · rw [if_pos hs]
     refine (zxr S V w R d p (by omega) hs).mono ?_
     rintro e w' ⟨he, hg⟩
     exact ⟨.nil, he, hnil w', hg⟩
   · rw [if_neg hs]
     exact ztb S V w R d p (by omega) hs
end Go.Proofs.YthfalocligkamaaGreatDoor
namespace Go.Proofs.YthfalocligkamaaGreatDoor
open Go Go.RowKit
theorem zib {l : List (List Int)} {k : Nat} (h : ∀ r ∈ l, r.length = k) : ∀ i, i < l.length → (rowAt l i).length = k := fun i hi => h _ (zq4 l i hi)
theorem zta (S : St) (id p : Int) : ∀ r ∈ showEv S id p, r.length = 6 := by
 unfold showEv
 intro r hr
 split at hr
 · cases hr
 split at hr
 · cases hr
 · rw [List.mem_singleton] at hr; subst hr; rfl
end Go.Proofs.YthfalocligkamaaGreatDoor
namespace Go.Proofs.YthfalocligkamaaGreatDoor
open Go Go.RowKit
theorem znc (l : List Int) (c : Nat) (h : c < l.length) : (l.eraseIdx c).length = l.length - 1 := List.length_eraseIdx_of_lt h
theorem z4r (l : List Int) (c : Nat) (h : c < l.length) : gt l c ∈ l := by rw [zc7 l c h]; exact List.getElem_mem h
theorem zxn (l : List (List Int)) (a : Nat) : l.set a (rowAt l a) = l := by
 by_cases h : a < l.length
 · have : rowAt l a = l[a] := by simp [rowAt, h]
   rw [this]; exact List.set_getElem_self h
 · exact List.set_eq_of_length_le (by omega)
theorem zxl (l : List Int) (i : Nat) : l.set i (gt l i) = l := by
 by_cases h : i < l.length
 · rw [zc7 l i h]; exact List.set_getElem_self h
 · exact List.set_eq_of_length_le (by omega)
theorem zro (a b c d e : Nat) (hb : b < 11) (hd : d < 11) : evCheck [1, (a : Int), b, c, d, e] = 0 := by
 unfold evCheck zcc zbk zcq inR
 simp only [gt, List.getD_cons_zero, List.getD_cons_succ]
 simp
 omega
theorem zm1 (S : St) (a b c d e : Nat) (hb : b < 11) (hd : d < 11) : zeg S [1, (a : Int), b, c, d, e] = zho S a b c d e := by
 unfold zeg
 rw [zro a b c d e hb hd]
 simp [gt]
theorem z1u (S : St) (a b c d e : Nat) (hA : a < S.objs.length) (hc : c < (S.list b).length) (ha : gt (S.list b) c = a) (he : e ≤ (zbv S b c d).length) : zho S a b c d e = .ok (zbj S a b c d e) := by
 unfold zho
 rw [if_neg (by omega), if_neg (fun h => h ⟨hc, ha⟩), if_neg (by omega)]
theorem zvm (o : List Int) (h : o.length = 18) (v : Int) : zba (o.set 17 v) = zba o := by
 unfold zba
 have hg : ∀ i, i ≠ 17 → gt (o.set 17 v) i = gt o i := fun i hi => by rw [zdr _ _ _ _ (by omega), if_neg (Ne.symm hi)]
 have hr : (restingL.any fun f => gt (o.set 17 v) f.val != 0) = restingL.any fun f => gt o f.val != 0 := by
  simp only [restingL, List.any_cons, List.any_nil]
  rw [hg ((4 : Fin 18).val) (by decide), hg ((5 : Fin 18).val) (by decide), hg ((6 : Fin 18).val) (by decide), hg ((7 : Fin 18).val) (by decide), hg ((8 : Fin 18).val) (by decide), hg ((9 : Fin 18).val) (by decide), hg ((10 : Fin 18).val) (by decide), hg ((11 : Fin 18).val) (by decide), hg ((12 : Fin 18).val) (by decide)]
 rw [hr, hg 3 (by decide), hg 2 (by decide), hg 1 (by decide), hg 16 (by decide)]
theorem zx0 (o : List Int) (h : o.length = 18) (v z : Int) : zbb (o.set 17 v) z = zbb o z := by
 unfold zbb
 rw [zdr _ _ _ _ (by omega), zdr _ _ _ _ (by omega)]; rfl
theorem zcb (S : St) (a f : Nat) (v : Int) : (S.setObj a f v).objs.length = S.objs.length := by simp [St.setObj]
theorem zeq (S : St) (a f i : Nat) (v : Int) (ha : a < S.objs.length) : rowAt (S.setObj a f v).objs i = if a = i then (rowAt S.objs a).set f v else rowAt S.objs i := zbu _ _ _ _ ha
theorem Right.knows {S : St} (h : Right S) (hw : ∀ i, i < S.objs.length → (rowAt S.objs i).length = 18) (a : Nat) (ha : a < S.objs.length) (v : Int) (h0 : 0 ≤ v) (h1 : v ≤ 3) : Right (S.setObj a 17 v) := by
 have hl := zcb S a 17 v
 have hr := fun i => zeq S a 17 i v ha
 have g3 : ∀ i, gt (rowAt (S.setObj a 17 v).objs i) 3 = gt (rowAt S.objs i) 3 := fun i => by
  rw [hr]; split
  · rename_i e; subst e; rw [zdr _ _ _ _ (by rw [hw a ha]; omega)]; rfl
  · rfl
 have gs : ∀ i z, zbb (rowAt (S.setObj a 17 v).objs i) z = zbb (rowAt S.objs i) z := fun i z => by
  rw [hr]; split
  · rename_i e; subst e; exact zx0 _ (hw a ha) _ _
  · rfl
 refine ⟨by rw [hl]; exact h.many, zg6 h.ranges hw _ a 17 v ha (by omega) rfl rfl ?_, ⟨fun z hz x hx => ?_, fun id hid => ?_⟩, fun i hi => ?_⟩
 · have : inB v 0 3 = true := by simp [inB]; omega
   exact this
 · obtain ⟨p, q, r, s⟩ := h.zon.ok z hz x hx
   exact ⟨p, by rw [hl]; exact q, by rw [g3]; exact r, by rw [gs]; exact s⟩
 · exact h.zon.once id (by rw [hl] at hid; exact hid)
 · rw [hr]; split
   · rename_i e; subst e; rw [zvm _ (hw a ha)]; exact h.formed a ha
   · exact h.formed i (by rw [hl] at hi; exact hi)
theorem Right.knowsIn {S : St} (h : Right S) (a : Nat) (ha : a < S.objs.length) : 0 ≤ gt (rowAt S.objs a) 17 ∧ gt (rowAt S.objs a) 17 ≤ 3 := by
 have h1 := ((za0 S).1 h.ranges).1 a ha
 unfold zdw at h1
 rw [List.all_eq_true] at h1
 have h2 := h1 17 (by simp)
 have h3 : inB (gt (rowAt S.objs a) 17) 0 3 = true := h2
 simpa [inB] using h3
theorem zwa {S : St} (hw : ∀ i, i < S.objs.length → (rowAt S.objs i).length = 18) (a b c d e : Nat) (ha : a < S.objs.length) : ∀ i, i < (zbj S a b c d e).objs.length → (rowAt (zbj S a b c d e).objs i).length = 18 := by
 intro i hi
 have hi : i < S.objs.length := by simpa [zbj] using hi
 show (rowAt (S.objs.set a _) i).length = 18
 rw [zbu _ _ _ _ ha]
 split
 · rw [List.length_set]; exact hw a ha
 · exact hw i hi
theorem zhv {S : St} (hw : ∀ i, i < S.objs.length → (rowAt S.objs i).length = 18) (a f : Nat) (v : Int) (ha : a < S.objs.length) : ∀ i, i < (S.setObj a f v).objs.length → (rowAt (S.setObj a f v).objs i).length = 18 := by
 intro i hi
 rw [zcb] at hi
 rw [zeq _ _ _ _ _ ha]
 split
 · rw [List.length_set]; exact hw a ha
 · exact hw i hi
end Go.Proofs.YthfalocligkamaaGreatDoor
