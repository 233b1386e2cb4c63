/- The walks of rand, and of judge's draws. -/
import Derived.Test.YthfalocligkamaaGreatDoorMDo
import Derived.Deep.Light
import Derived.Test.YthfalocligkamaaGreatDoorMEv2
namespace Go.Proofs.YthfalocligkamaaGreatDoor
open Go Go.RowKit
theorem zhf (s : Sl) (w : World) : Calls Tryz.prog 41 #[s.val] w fun e w' => e = .returned (errV (if 4096 < s.n then 19 else 0)) ∧ w' = w := by
 by_cases h : 4096 < s.n
 · rw [if_pos h]
   go_enter Tryz.func41, Tryz.ntmps41
   go_wp2_with fail
   go_ret
   exact ⟨rfl, rfl⟩
 · rw [if_neg h]
   go_enter Tryz.func41, Tryz.ntmps41
   go_wp2_with fail
   go_ret
   exact ⟨rfl, rfl⟩
def zh9 (d n : Int) : Int := if d.tmod n < 0 then d.tmod n + n else d.tmod n
theorem zmu (d n : Int) (h0 : 0 < n) (h1 : n ≤ 9223372036854775807) (w : World) : Calls Tryz.prog 135 #[.int .i64 d, .int .i64 n] w fun e w' => e = .returned (.int .i64 (zh9 d n)) ∧ w' = w := by
 have hm := Int.tmod_lt_of_pos d h0
 have hm2 : -n < d.tmod n := by
  have := Int.tmod_lt_of_pos (-d) h0
  rw [Int.neg_tmod] at this; omega
 have hn : ¬ n = 0 := by omega
 have HB : Hid (zh9 d n = if d.tmod n < 0 then d.tmod n + n else d.tmod n) := rfl
 generalize hr : d.tmod n = r at *
 by_cases h : r < 0
 · go_enter Tryz.func135, Tryz.ntmps135
   go_wp2_with fail
   go_ret
   exact ⟨zxm (by rw [HB.out, if_pos h]), rfl⟩
 · go_enter Tryz.func135, Tryz.ntmps135
   go_wp2_with fail
   go_ret
   exact ⟨zxm (by rw [HB.out, if_neg (by omega)]), rfl⟩
theorem zlx (s : Sl) (c : Int) (hs : s.n ≤ 1048576) (hc : 0 ≤ c) (hc2 : c ≤ 1073741824) (w : World) : Calls Tryz.prog 133 #[s.val, .int .i64 c] w fun e w' => e = .returned (.int .i64 (max ((s.n : Int) - c) 0)) ∧ w' = w := by
 go_enter Tryz.func133, Tryz.ntmps133
 go_wp2_with fail
 go_ret
 exact ⟨rfl, rfl⟩
end Go.Proofs.YthfalocligkamaaGreatDoor
namespace Go.Proofs.YthfalocligkamaaGreatDoor
open Go Go.RowKit
def zeb (l : List Int) (c n : Int) : Int × Int × Int :=
 if 4096 < l.length then (0, 0, 19) else if n < 1 ∨ c < 0 then (0, 0, 1) else if (l.length : Int) ≤ c then (0, 0, 13) else (zh9 (gt l c.toNat) n, c + 1, 0)
theorem ziy (d n : Int) (h : 0 < n) : 0 ≤ zh9 d n ∧ zh9 d n < n := by
 have hm := Int.tmod_lt_of_pos d h
 have hm2 : -n < d.tmod n := by
  have := Int.tmod_lt_of_pos (-d) h
  rw [Int.neg_tmod] at this; omega
 unfold zh9
 split <;> omega
set_option maxRecDepth 100000 in
theorem z2x (w : World) (s : Sl) (l : List Int) (c n : Int) (R : Ints w s l) (hb : l.length ≤ 1048576) (hc : c ≤ 1073741824) (hn : n ≤ 9223372036854775807) :
 Calls Tryz.prog 142 #[s.val, .int .i64 c, .int .i64 n] w fun e w' => e = .returned (.tuple #[.int .i64 (zeb l c n).1, .int .i64 (zeb l c n).2.1, errV (zeb l c n).2.2]) ∧ w' = w := by
 have hlen := R.len
 have HR := Lib.hid R
 clear R
 have HCK := Lib.hid (fun W => zhf s W)
 by_cases h1 : 4096 < l.length
 · have e1 : zeb l c n = (0, 0, 19) := by unfold zeb; rw [if_pos h1]
   rw [e1]
   have hck := HCK.out
   rw [hlen, if_pos h1] at hck
   have HC2 := Lib.hid hck
   clear hck e1
   go_enter Tryz.func142, Tryz.ntmps142
   go_wp2_with (go_at_call 41; refine (HC2.out _).mono ?_; rintro e' w' ⟨rfl, hww⟩; subst w')
   go_ret3
   exact ⟨rfl, rfl⟩
 · have hck := HCK.out
   rw [hlen, if_neg h1] at hck
   have HC2 := Lib.hid hck
   clear hck
   by_cases h2 : n < 1 ∨ c < 0
   · have e1 : zeb l c n = (0, 0, 1) := by unfold zeb; rw [if_neg h1, if_pos h2]
     rw [e1]
     clear e1
     by_cases h3 : n < 1
     · go_enter Tryz.func142, Tryz.ntmps142
       go_wp2_with (go_at_call 41; refine (HC2.out _).mono ?_; rintro e' w' ⟨rfl, hww⟩; subst w')
       go_ret3
       exact ⟨rfl, rfl⟩
     · have h4 : c < 0 := by omega
       clear h2
       go_enter Tryz.func142, Tryz.ntmps142
       go_wp2_with (go_at_call 41; refine (HC2.out _).mono ?_; rintro e' w' ⟨rfl, hww⟩; subst w')
       go_ret3
       exact ⟨rfl, rfl⟩
   · have h3 : ¬ n < 1 := by omega
     have h4 : ¬ c < 0 := by omega
     by_cases h5 : (l.length : Int) ≤ c
     · have e1 : zeb l c n = (0, 0, 13) := by unfold zeb; rw [if_neg h1, if_neg h2, if_pos h5]
       rw [e1]
       clear e1 h2
       have hmx : max ((s.n : Int) - c) 0 = 0 := by omega
       have HL := Lib.hid (fun W => zlx s c (by omega) (by omega) hc W)
       rw [hmx] at HL
       clear hmx
       go_enter Tryz.func142, Tryz.ntmps142
       go_wp2_with (first | (go_at_call 41; refine (HC2.out _).mono ?_; rintro e' w' ⟨rfl, hww⟩; subst w') | (go_at_call 133; refine (HL.out _).mono ?_; rintro e' w' ⟨rfl, hww⟩; subst w'))
       go_ret3
       exact ⟨rfl, rfl⟩
     · obtain ⟨k, rfl⟩ := Int.eq_ofNat_of_zero_le (show 0 ≤ c by omega)
       have e1 : zeb l k n = (zh9 (gt l k) n, (k : Int) + 1, 0) := by unfold zeb; rw [if_neg h1, if_neg h2, if_neg h5, Int.toNat_natCast]
       rw [e1]
       clear e1 h2
       obtain ⟨hbb, hcc⟩ := HR.out.at k (by omega)
       have HL := Lib.hid (fun W => zlx s k (by omega) (by omega) hc W)
       generalize hq : max ((s.n : Int) - k) 0 = q at HL
       have hq2 : (q == 0) = false := by simp; omega
       clear hq
       go_enter Tryz.func142, Tryz.ntmps142
       go_wp2_with (first | (go_at_call 41; refine (HC2.out _).mono ?_; rintro e' w' ⟨rfl, hww⟩; subst w') | (go_at_call 133; refine (HL.out _).mono ?_; rintro e' w' ⟨rfl, hww⟩; subst w') | (go_at_call 135; refine (zmu _ _ (by omega) hn _).mono ?_; rintro e' w' ⟨rfl, hww⟩; subst w'))
       go_ret3
       exact ⟨rfl, rfl⟩
end Go.Proofs.YthfalocligkamaaGreatDoor
namespace Go.Proofs.YthfalocligkamaaGreatDoor
open Go Go.RowKit
set_option maxRecDepth 100000 in
theorem zym (S : St) (V : SV) (w : World) (R : RepSt w V S) (id p : Int) (h : id < 0 ∨ (S.objs.length : Int) ≤ id) : Calls Tryz.prog 132 #[.agg (stA V S.num), .int .i64 id, .int .i64 p] w fun e w' => e = .returned Sl.nil.val ∧ Grow w w' := by
 have hN := R.objs.len
 by_cases h0 : id < 0
 · go_enter Tryz.func132, Tryz.ntmps132
   go_wp2_with go_in
   all_goals (go_ret; exact ⟨rfl, grI⟩)
 · have h1 : (S.objs.length : Int) ≤ id := by omega
   clear h
   go_enter Tryz.func132, Tryz.ntmps132
   go_wp2_with go_in
   all_goals (go_ret; exact ⟨rfl, grI⟩)
def zdo (was p : Int) : Int := bits BinOp.or .i64 was (bits BinOp.and .i64 p 3)
def showEv (S : St) (id : Int) (p : Int) : List (List Int) :=
 if id < 0 ∨ (S.objs.length : Int) ≤ id then []
 else if zdo (gt (rowAt S.objs id.toNat) 17) p = gt (rowAt S.objs id.toNat) 17 then []
 else [[2, id, 17, gt (rowAt S.objs id.toNat) 17, zdo (gt (rowAt S.objs id.toNat) 17) p, 0]]
theorem zxg (w : World) (t : TypeId) (k : Nat) (r : List Int) (hr : r.length = k) : Own (w.alloc (.cells (cellsOf r) t)) (.mk w.heap.size 0 1 1) t k w.heap.size (zea [r]) := by
 refine ⟨zd4 _ _ k r hr (by rw [zeq, if_pos rfl]), by simp [Sl.c, maxLen], rfl, fun b hb => ?_⟩
 have hb : b = w.heap.size := hb
 subst hb
 exact ⟨Nat.le_refl _, cellsOf r, heap_alloc_new w _, by simp [cellsOf, hr, Sl.c]⟩
set_option maxRecDepth 100000 in
set_option maxHeartbeats 1000000 in
theorem zyn (S : St) (V : SV) (w : World) (R : RepSt w V S) (d : Nat) (p : Int) (h : d < S.objs.length) (hs : zdo (gt (rowAt S.objs d) 17) p = gt (rowAt S.objs d) 17) : Calls Tryz.prog 132 #[.agg (stA V S.num), .int .i64 d, .int .i64 p] w fun e w' => e = .returned Sl.nil.val ∧ Grow w w' := by
 have hN := R.objs.len
 obtain ⟨hb, hw, hsz, hsub, hcell⟩ := R.objs.at (by omega) d h
 have hc := hcell 17 (by omega)
 clear hcell
 unfold zdo at hs
 generalize gt (rowAt S.objs d) 17 = was at *
 have hq : (bits BinOp.or .i64 was (bits BinOp.and .i64 p 3) == was) = true := by simpa using hs
 clear hs
 go_enter Tryz.func132, Tryz.ntmps132
 go_wp2_with go_in
 go_ret
 exact ⟨rfl, grI⟩
set_option maxRecDepth 100000 in
set_option maxHeartbeats 1000000 in
theorem zt0 (S : St) (V : SV) (w : World) (R : RepSt w V S) (d : Nat) (p : Int) (h : d < S.objs.length) (hs : ¬ zdo (gt (rowAt S.objs d) 17) p = gt (rowAt S.objs d) 17) : Calls Tryz.prog 132 #[.agg (stA V S.num), .int .i64 d, .int .i64 p] w fun e w' => ∃ s' : Sl, e = .returned s'.val ∧ Own w' s' 90 6 w.heap.size (zea [[2, (d : Int), 17, gt (rowAt S.objs d) 17, zdo (gt (rowAt S.objs d) 17) p, 0]]) ∧ Grow w w' := by
 have hN := R.objs.len
 obtain ⟨hb, hw, hsz, hsub, hcell⟩ := R.objs.at (by omega) d h
 have hc := hcell 17 (by omega)
 clear hcell
 have HQ : ∀ x, zdo x p = bits BinOp.or .i64 x (bits BinOp.and .i64 p 3) := fun x => rfl
 generalize gt (rowAt S.objs d) 17 = was at *
 rw [HQ] at hs ⊢
 have hq : (bits BinOp.or .i64 was (bits BinOp.and .i64 p 3) == was) = false := by simpa using hs
 clear hs HQ
 go_enter Tryz.func132, Tryz.ntmps132
 go_wp2_with go_in
 go_ret
 refine ⟨.mk (w.heap.size + 1 + 1 + 1) 0 1 1, rfl, ?_, grI⟩
 have h1 := zxg (((w.alloc (.cells (stA V S.num) 29)).alloc (.cells #[.int .i64 p] 3)).alloc (.cells (stA V S.num) 29)) 90 6 [2, (d : Int), 17, was, bits BinOp.or .i64 was (bits BinOp.and .i64 p 3), 0] rfl
 simp only [zaa] at h1
 exact h1.mono (by omega)
theorem z3g (S : St) (V : SV) (w : World) (R : RepSt w V S) (id p : Int) : Calls Tryz.prog 132 #[.agg (stA V S.num), .int .i64 id, .int .i64 p] w fun e w' => ∃ s' : Sl, e = .returned s'.val ∧ Own w' s' 90 6 w.heap.size (zea (showEv S id p)) ∧ Grow w w' := by
 have hnil : ∀ w' : World, Own w' .nil 90 6 w.heap.size (zea []) := fun w' => ⟨⟨by simp [Sl.n, zea], Nat.le_refl _, fun j u hu => by simp [zea] at hu⟩, Nat.zero_le _, rfl, fun b h => h.elim⟩
 unfold showEv
 by_cases h : id < 0 ∨ (S.objs.length : Int) ≤ id
 · rw [if_pos h]
   refine (zym S V w R id p h).mono ?_
   rintro e w' ⟨he, hg⟩
   exact ⟨.nil, he, hnil w', hg⟩
 · rw [if_neg h]
   obtain ⟨d, rfl⟩ := Int.eq_ofNat_of_zero_le (show 0 ≤ id by omega)
   rw [Int.toNat_natCast]
   by_cases hs : zdo (gt (rowAt S.objs d) 17) p = gt (rowAt S.objs d) 17
   · rw [if_pos hs]
     refine (zyn S V w R d p (by omega) hs).mono ?_
     rintro e w' ⟨he, hg⟩
     exact ⟨.nil, he, hnil w', hg⟩
   · rw [if_neg hs]
     exact zt0 S V w R d p (by omega) hs
end Go.Proofs.YthfalocligkamaaGreatDoor
namespace Go.Proofs.YthfalocligkamaaGreatDoor
open Go Go.RowKit
theorem zij {l : List (List Int)} {k : Nat} (h : ∀ r ∈ l, r.length = k) : ∀ i, i < l.length → (rowAt l i).length = k := fun i hi => h _ (zq2 l i hi)
theorem ztz (S : St) (id p : Int) : ∀ r ∈ showEv S id p, r.length = 6 := by
 unfold showEv
 intro r hr
 split at hr
 · cases hr
 split at hr
 · cases hr
 · rw [List.mem_singleton] at hr; subst hr; rfl
end Go.Proofs.YthfalocligkamaaGreatDoor
namespace Go.Proofs.YthfalocligkamaaGreatDoor
open Go Go.RowKit
theorem znb (l : List Int) (c : Nat) (h : c < l.length) : (l.eraseIdx c).length = l.length - 1 := List.length_eraseIdx_of_lt h
theorem z5e (l : List Int) (c : Nat) (h : c < l.length) : gt l c ∈ l := by rw [zcw l c h]; exact List.getElem_mem h
theorem zyj (l : List (List Int)) (a : Nat) : l.set a (rowAt l a) = l := by
 by_cases h : a < l.length
 · have : rowAt l a = l[a] := by simp [rowAt, h]
   rw [this]; exact List.set_getElem_self h
 · exact List.set_eq_of_length_le (by omega)
theorem zyh (l : List Int) (i : Nat) : l.set i (gt l i) = l := by
 by_cases h : i < l.length
 · rw [zcw l i h]; exact List.set_getElem_self h
 · exact List.set_eq_of_length_le (by omega)
theorem zr4 (a b c d e : Nat) (hb : b < 11) (hd : d < 11) : evCheck [1, (a : Int), b, c, d, e] = 0 := by
 unfold evCheck zce zbr zcu inR
 simp only [gt, List.getD_cons_zero, List.getD_cons_succ]
 simp
 omega
theorem zmy (S : St) (a b c d e : Nat) (hb : b < 11) (hd : d < 11) : zen S [1, (a : Int), b, c, d, e] = zhx S a b c d e := by
 unfold zen
 rw [zr4 a b c d e hb hd]
 simp [gt]
theorem z2l (S : St) (a b c d e : Nat) (hA : a < S.objs.length) (hc : c < (S.list b).length) (ha : gt (S.list b) c = a) (he : e ≤ (zbz S b c d).length) : zhx S a b c d e = .ok (zbt S a b c d e) := by
 unfold zhx
 rw [if_neg (by omega), if_neg (fun h => h ⟨hc, ha⟩), if_neg (by omega)]
theorem zwg (o : List Int) (h : o.length = 18) (v : Int) : zbf (o.set 17 v) = zbf o := by
 unfold zbf
 have hg : ∀ i, i ≠ 17 → gt (o.set 17 v) i = gt o i := fun i hi => by rw [zeh _ _ _ _ (by omega), if_neg (Ne.symm hi)]
 have hr : (restingL.any fun f => gt (o.set 17 v) f.val != 0) = restingL.any fun f => gt o f.val != 0 := by
  simp only [restingL, List.any_cons, List.any_nil]
  rw [hg ((4 : Fin 18).val) (by decide), hg ((5 : Fin 18).val) (by decide), hg ((6 : Fin 18).val) (by decide), hg ((7 : Fin 18).val) (by decide), hg ((8 : Fin 18).val) (by decide), hg ((9 : Fin 18).val) (by decide), hg ((10 : Fin 18).val) (by decide), hg ((11 : Fin 18).val) (by decide), hg ((12 : Fin 18).val) (by decide)]
 rw [hr, hg 3 (by decide), hg 2 (by decide), hg 1 (by decide), hg 16 (by decide)]
theorem zyv (o : List Int) (h : o.length = 18) (v z : Int) : zbg (o.set 17 v) z = zbg o z := by
 unfold zbg
 rw [zeh _ _ _ _ (by omega), zeh _ _ _ _ (by omega)]; rfl
theorem zc6 (S : St) (a f : Nat) (v : Int) : (S.setObj a f v).objs.length = S.objs.length := by simp [St.setObj]
theorem zf5 (S : St) (a f i : Nat) (v : Int) (ha : a < S.objs.length) : rowAt (S.setObj a f v).objs i = if a = i then (rowAt S.objs a).set f v else rowAt S.objs i := zb5 _ _ _ _ ha
theorem Right.knows {S : St} (h : Right S) (hw : ∀ i, i < S.objs.length → (rowAt S.objs i).length = 18) (a : Nat) (ha : a < S.objs.length) (v : Int) (h0 : 0 ≤ v) (h1 : v ≤ 3) : Right (S.setObj a 17 v) := by
 have hl := zc6 S a 17 v
 have hr := fun i => zf5 S a 17 i v ha
 have g3 : ∀ i, gt (rowAt (S.setObj a 17 v).objs i) 3 = gt (rowAt S.objs i) 3 := fun i => by
  rw [hr]; split
  · rename_i e; subst e; rw [zeh _ _ _ _ (by rw [hw a ha]; omega)]; rfl
  · rfl
 have gs : ∀ i z, zbg (rowAt (S.setObj a 17 v).objs i) z = zbg (rowAt S.objs i) z := fun i z => by
  rw [hr]; split
  · rename_i e; subst e; exact zyv _ (hw a ha) _ _
  · rfl
 refine ⟨by rw [hl]; exact h.many, zhg h.ranges hw _ a 17 v ha (by omega) rfl rfl ?_, ⟨fun z hz x hx => ?_, fun id hid => ?_⟩, fun i hi => ?_⟩
 · have : inB v 0 3 = true := by simp [inB]; omega
   exact this
 · obtain ⟨p, q, r, s⟩ := h.zon.ok z hz x hx
   exact ⟨p, by rw [hl]; exact q, by rw [g3]; exact r, by rw [gs]; exact s⟩
 · exact h.zon.once id (by rw [hl] at hid; exact hid)
 · rw [hr]; split
   · rename_i e; subst e; rw [zwg _ (hw a ha)]; exact h.formed a ha
   · exact h.formed i (by rw [hl] at hi; exact hi)
theorem Right.knowsIn {S : St} (h : Right S) (a : Nat) (ha : a < S.objs.length) : 0 ≤ gt (rowAt S.objs a) 17 ∧ gt (rowAt S.objs a) 17 ≤ 3 := by
 have h1 := ((za2 S).1 h.ranges).1 a ha
 unfold zdv at h1
 rw [List.all_eq_true] at h1
 have h2 := h1 17 (by simp)
 have h3 : inB (gt (rowAt S.objs a) 17) 0 3 = true := h2
 simpa [inB] using h3
theorem zw4 {S : St} (hw : ∀ i, i < S.objs.length → (rowAt S.objs i).length = 18) (a b c d e : Nat) (ha : a < S.objs.length) : ∀ i, i < (zbt S a b c d e).objs.length → (rowAt (zbt S a b c d e).objs i).length = 18 := by
 intro i hi
 have hi : i < S.objs.length := by simpa [zbt] using hi
 show (rowAt (S.objs.set a _) i).length = 18
 rw [zb5 _ _ _ _ ha]
 split
 · rw [List.length_set]; exact hw a ha
 · exact hw i hi
theorem zla {S : St} (hw : ∀ i, i < S.objs.length → (rowAt S.objs i).length = 18) (a f : Nat) (v : Int) (ha : a < S.objs.length) : ∀ i, i < (S.setObj a f v).objs.length → (rowAt (S.setObj a f v).objs i).length = 18 := by
 intro i hi
 rw [zc6] at hi
 rw [zf5 _ _ _ _ _ ha]
 split
 · rw [List.length_set]; exact hw a ha
 · exact hw i hi
end Go.Proofs.YthfalocligkamaaGreatDoor
