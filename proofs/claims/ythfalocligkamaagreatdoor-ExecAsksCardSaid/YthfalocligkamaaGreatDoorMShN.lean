/- What an emitter's Shuffle does, as plain functions. -/
import Derived.Test.YthfalocligkamaaGreatDoorMAc1
namespace Go.Proofs.YthfalocligkamaaGreatDoor
open Go Go.RowKit Go.Shelf
def zoc (l : List Int) (i k : Nat) : List Int := (l.set i (gt l k)).set k (gt l i)
def idL (n : Nat) : List Int := (List.range n).map fun (i : Nat) => (i : Int)
def zun (d : List Int) (c n : Nat) : Nat → List Int
 | 0 => idL n
 | t + 1 => zoc (zun d c n t) (n - 1 - t) (zh9 (gt d (c + t)) ((n - 1 - t : Nat) + 1)).toNat
def ordR (d : List Int) (c : Int) (n : Nat) : List Int × Int × Int :=
 if 4096 < d.length then ([], 0, 19) else if 400 < n ∨ c < 0 then ([], 0, 1) else if max ((d.length : Int) - c) 0 < max (n : Int) 1 - 1 then ([], 0, 13) else (zun d c.toNat n (n - 1), c + (max (n : Int) 1 - 1), 0)
def zji (was p : Int) : Int := bits BinOp.andNot .i64 was (bits BinOp.and .i64 p 3)
def hideEv (S : St) (id p : Int) : List (List Int) :=
 if id < 0 ∨ (S.objs.length : Int) ≤ id then []
 else if zji (gt (rowAt S.objs id.toNat) 17) p = gt (rowAt S.objs id.toNat) 17 then []
 else [[2, id, 17, gt (rowAt S.objs id.toNat) 17, zji (gt (rowAt S.objs id.toNat) 17) p, 0]]
def Em.shufAt (E : Em) (z : Nat) (id at' : Int) : Em := if idxL (E.now.list z) id = at' then E else E.do1 [1, id, z, idxL (E.now.list z) id, z, at']
def Em.shufTo (E : Em) (z : Nat) (l : List Int) : Nat → Em
 | 0 => E
 | k + 1 => (E.shufTo z l k).shufAt z (gt l k) k
def Em.hideTo (E : Em) (l : List Int) : Nat → Em
 | 0 => E
 | k + 1 => (E.hideTo l k).dos (hideEv (E.hideTo l k).now (gt l k) 3)
def Em.shuf0 (E : Em) (p : Nat) : Em := (E.fail (ordR E.draws (E.now.num 23) (E.now.list p).length).2.2).setGame 5 (ordR E.draws (E.now.num 23) (E.now.list p).length).2.1
def zj8 (l o : List Int) : List Int := o.map fun i => gt l i.toNat
def Em.shufD (E : Em) (p : Nat) : List Int := zj8 (E.now.list p) (ordR E.draws (E.now.num 23) (E.now.list p).length).1
def Em.shuffle (E : Em) (p : Int) : Em :=
 if E.err ≠ 0 then E
 else if ¬ (p = 0 ∨ p = 1) then { E with err := 1 }
 else if (E.shuf0 p.toNat).err ≠ 0 then E.shuf0 p.toNat
 else ((E.shuf0 p.toNat).shufTo p.toNat (E.shufD p.toNat) (E.shufD p.toNat).length).hideTo (E.shufD p.toNat) (E.shufD p.toNat).length
theorem zrc (l : List Int) (i k : Nat) : (zoc l i k).length = l.length := by simp [zoc]
theorem zis (d : List Int) (c n : Nat) : ∀ t, (zun d c n t).length = n
 | 0 => by simp [zun, idL]
 | t + 1 => by rw [zun, zrc, zis d c n t]
theorem zyx (l : List Int) (i k : Nat) (hi : i < l.length) (hk : k < l.length) : (zoc l i k).Perm l := by
 unfold zoc
 rw [zcw l k hk, zcw l i hi]
 exact List.set_set_perm hi hk
theorem znh (d : List Int) (c n : Nat) : ∀ t, t ≤ n - 1 → (zun d c n t).Perm (idL n)
 | 0, _ => List.Perm.refl _
 | t + 1, h => by
   rw [zun]
   have hb := ziy (gt d (c + t)) ((n - 1 - t : Nat) + 1) (by omega)
   refine (zyx _ _ _ (by rw [zis]; omega) (by rw [zis]; omega)).trans (znh d c n t (by omega))
theorem znn (n : Nat) : List.Pairwise (fun a b : Int => (decide (a ≤ b)) = true) (idL n) := by
 unfold idL
 rw [List.pairwise_map]
 refine List.Pairwise.imp ?_ (List.pairwise_lt_range (n := n))
 intro a b h
 simp; omega
theorem zt1 (l : List Int) (n : Nat) (h : l.Perm (idL n)) : l.mergeSort (fun x y => decide (x ≤ y)) = idL n := by
 have h1 : List.Pairwise (fun a b : Int => (decide (a ≤ b)) = true) (l.mergeSort (fun x y => decide (x ≤ y))) := List.pairwise_mergeSort (by intro a b c; simp; omega) (by intro a b; simp; omega) l
 have h2 : (l.mergeSort (fun x y => decide (x ≤ y))).Perm (idL n) := (List.mergeSort_perm l _).trans h
 exact h2.eq_of_pairwise (fun a b _ _ h1 h2 => by simp at h1 h2; omega) h1 (znn n)
end Go.Proofs.YthfalocligkamaaGreatDoor
namespace Go.Proofs.YthfalocligkamaaGreatDoor
open Go Go.RowKit
@[go_sem] theorem zxt (w : World) (k a f u v : Int) : (za0 90 #[(0, .int .i64 k), (1, .int .i64 a), (2, .int .i64 f), (3, .int .i64 u), (4, .int .i64 v)]).run Tryz.prog w = .ok (.value (.agg (cellsOf [k, a, f, u, v, 0]))) w := by kernel_rfl
set_option maxRecDepth 100000 in
theorem zwq (S : St) (V : SV) (w : World) (R : RepSt w V S) (id p : Int) (h : id < 0 ∨ (S.objs.length : Int) ≤ id) : Calls Tryz.prog 113 #[.agg (stA V S.num), .int .i64 id, .int .i64 p] w fun e w' => e = .returned Sl.nil.val ∧ Grow w w' := by
 have hN := R.objs.len
 by_cases h0 : id < 0
 · go_enter Tryz.func113, Tryz.ntmps113
   go_wp2_with go_in
   all_goals (go_ret; exact ⟨rfl, grI⟩)
 · have h1 : (S.objs.length : Int) ≤ id := by omega
   clear h
   go_enter Tryz.func113, Tryz.ntmps113
   go_wp2_with go_in
   all_goals (go_ret; exact ⟨rfl, grI⟩)
set_option maxRecDepth 100000 in
set_option maxHeartbeats 1000000 in
theorem zwr (S : St) (V : SV) (w : World) (R : RepSt w V S) (d : Nat) (p : Int) (h : d < S.objs.length) (hs : zji (gt (rowAt S.objs d) 17) p = gt (rowAt S.objs d) 17) : Calls Tryz.prog 113 #[.agg (stA V S.num), .int .i64 d, .int .i64 p] w fun e w' => e = .returned Sl.nil.val ∧ Grow w w' := by
 have hN := R.objs.len
 obtain ⟨hb, hw, hsz, hsub, hcell⟩ := R.objs.at (by omega) d h
 have hc := hcell 17 (by omega)
 clear hcell
 unfold zji at hs
 generalize gt (rowAt S.objs d) 17 = was at *
 have hq : (bits BinOp.andNot .i64 was (bits BinOp.and .i64 p 3) == was) = true := by simpa using hs
 clear hs
 go_enter Tryz.func113, Tryz.ntmps113
 go_wp2_with go_in
 go_ret
 exact ⟨rfl, grI⟩
set_option maxRecDepth 100000 in
set_option maxHeartbeats 1000000 in
theorem zsp (S : St) (V : SV) (w : World) (R : RepSt w V S) (d : Nat) (p : Int) (h : d < S.objs.length) (hs : ¬ zji (gt (rowAt S.objs d) 17) p = gt (rowAt S.objs d) 17) : Calls Tryz.prog 113 #[.agg (stA V S.num), .int .i64 d, .int .i64 p] w fun e w' => ∃ s' : Sl, e = .returned s'.val ∧ Own w' s' 90 6 w.heap.size (zea [[2, (d : Int), 17, gt (rowAt S.objs d) 17, zji (gt (rowAt S.objs d) 17) p, 0]]) ∧ Grow w w' := by
 have hN := R.objs.len
 obtain ⟨hb, hw, hsz, hsub, hcell⟩ := R.objs.at (by omega) d h
 have hc := hcell 17 (by omega)
 clear hcell
 have HQ : ∀ x, zji x p = bits BinOp.andNot .i64 x (bits BinOp.and .i64 p 3) := fun x => rfl
 generalize gt (rowAt S.objs d) 17 = was at *
 rw [HQ] at hs ⊢
 have hq : (bits BinOp.andNot .i64 was (bits BinOp.and .i64 p 3) == was) = false := by simpa using hs
 clear hs HQ
 go_enter Tryz.func113, Tryz.ntmps113
 go_wp2_with go_in
 go_ret
 refine ⟨.mk (w.heap.size + 1 + 1 + 1) 0 1 1, rfl, ?_, grI⟩
 have h1 := zxg (((w.alloc (.cells (stA V S.num) 29)).alloc (.cells #[.int .i64 p] 3)).alloc (.cells (stA V S.num) 29)) 90 6 [2, (d : Int), 17, was, bits BinOp.andNot .i64 was (bits BinOp.and .i64 p 3), 0] rfl
 simp only [zaa] at h1
 exact h1.mono (by omega)
theorem z1b (S : St) (V : SV) (w : World) (R : RepSt w V S) (id p : Int) : Calls Tryz.prog 113 #[.agg (stA V S.num), .int .i64 id, .int .i64 p] w fun e w' => ∃ s' : Sl, e = .returned s'.val ∧ Own w' s' 90 6 w.heap.size (zea (hideEv S id p)) ∧ Grow w w' := by
 have hnil : ∀ w' : World, Own w' .nil 90 6 w.heap.size (zea []) := fun w' => ⟨⟨by simp [Sl.n, zea], Nat.le_refl _, fun j u hu => by simp [zea] at hu⟩, Nat.zero_le _, rfl, fun b h => h.elim⟩
 unfold hideEv
 by_cases h : id < 0 ∨ (S.objs.length : Int) ≤ id
 · rw [if_pos h]
   refine (zwq S V w R id p h).mono ?_
   rintro e w' ⟨he, hg⟩
   exact ⟨.nil, he, hnil w', hg⟩
 · rw [if_neg h]
   obtain ⟨d, rfl⟩ := Int.eq_ofNat_of_zero_le (show 0 ≤ id by omega)
   rw [Int.toNat_natCast]
   by_cases hs : zji (gt (rowAt S.objs d) 17) p = gt (rowAt S.objs d) 17
   · rw [if_pos hs]
     refine (zwr S V w R d p (by omega) hs).mono ?_
     rintro e w' ⟨he, hg⟩
     exact ⟨.nil, he, hnil w', hg⟩
   · rw [if_neg hs]
     exact zsp S V w R d p (by omega) hs
end Go.Proofs.YthfalocligkamaaGreatDoor
namespace Go.Proofs.YthfalocligkamaaGreatDoor
open Go Go.RowKit Go.Shelf
@[go_sem] theorem yci (w : World) (l c : Int) (h0 : 0 ≤ l) (hlc : l = c) (h1 : c ≤ 1048576) : (Instr.makeSlice 23 (.int .i64 l) (.int .i64 c)).run Tryz.prog w = .ok (.slice (some ⟨w.heap.size, 0, none⟩) c.toNat c.toNat) (w.alloc (.cells (cellsOf (List.replicate c.toNat 0)) 3)) := by
 subst hlc
 have hb : (Tryz.t3.bytes : Int) * l ≤ 281474976710656 := by
  rw [show (Tryz.t3.bytes : Int) = 8 by kernel_rfl]; omega
 have h := run_make (P := Tryz.prog) w 23 3 Tryz.t3 (.int .i64 0) Tryz.underlying23 (by kernel_rfl) (by kernel_rfl) .i64 .i64 l l h0 (Int.le_refl _) hb (by omega)
 have hz : madeCells #[.int .i64 0] l.toNat = cellsOf (List.replicate l.toNat 0) := by
  apply Array.ext'
  rw [toList_madeCells_one]
  simp [cellsOf]
 rw [h, show Tryz.t3.size = 1 by kernel_rfl, Nat.mul_one]
 simp only [Value.cells, hz]
theorem zte (n : Nat) (hn : n ≤ 1048576) (w : World) : Calls Tryz.prog 134 #[.int .i64 (n : Int)] w fun e w' => e = .returned (.int .i64 (max (n : Int) 1 - 1)) ∧ w' = w := by
 go_enter Tryz.func134, Tryz.ntmps134
 go_wp2_with fail
 go_ret
 exact ⟨rfl, rfl⟩
def yf6 (d : List Int) (c : Int) (n : Nat) (w : World) (r : Ending) (w' : World) : Prop :=
 ∃ s : Sl, r = .returned (.tuple #[s.val, .int .i64 (ordR d c n).2.1, errV (ordR d c n).2.2]) ∧ Ints w' s (ordR d c n).1 ∧ (∀ k, s.owns k → w.heap.size ≤ k ∧ k < w'.heap.size) ∧ Grow w w'
theorem z7i (n k : Nat) (l : List Int) (h : l.length = n) (hk : k < n) (hl : ∀ i, i < k → gt l i = i) : ∀ i, i < k + 1 → gt (l.set k (k : Int)) i = i := fun i hi => by
 rw [zeh _ _ _ _ (by omega)]
 split
 · omega
 · exact hl i (by omega)
theorem z7h (n : Nat) (l : List Int) (h : l.length = n) (hl : ∀ i, i < n → gt l i = i) : l = idL n := by
 apply List.ext_getElem (by simp [h, idL])
 intro i h1 h2
 have := hl i (by omega)
 rw [zcw l i h1] at this
 simp [this, idL]
theorem zxc {j : Nat} (h : 0 < (j : Int)) : 0 < (j : Int) + 1 := by omega
theorem ycq {n j t : Nat} (hz : (j : Int) + t = (n : Int) - 1) (hm : (n : Int) ≤ 1048576) : (j : Int) ≤ 1048576 := by omega
theorem z75 {j : Nat} (h : (j : Int) ≤ 1048576) : (j : Int) + 1 ≤ 9223372036854775807 := by omega
theorem ycp {c n : Nat} (h : c < n) (hn : n ≤ 1048576) : (c : Int) ≤ 1048576 := by omega
theorem yhj {n j t kn L : Nat} {b : Int} (hz : (j : Int) + t = (n : Int) - 1) (h : b = (j : Int) + 1) (hL : L = n) (hk : (kn : Int) < b) : (j : Int) < (n : Int) ∧ (kn : Int) < (n : Int) ∧ j < L ∧ kn < L ∧ (0 : Int) ≤ (kn : Int) ∧ n - 1 - t = j := by omega
theorem z2u {n t j : Nat} (hz : (j : Int) + t = (n : Int) - 1) (hp : 0 < (j : Int)) : ((t + 1 : Nat) : Int) ≤ max (n : Int) 1 - 1 ∧ (j : Int) - 1 + ((t + 1 : Nat) : Int) = (n : Int) - 1 := by omega
theorem z2t {j : Nat} (h : 0 < (j : Int)) : ((j : Int) - 1).toNat < (j : Int).toNat := by omega
theorem z2v {n t : Nat} {z : Int} (ht : (t : Int) ≤ max (n : Int) 1 - 1) (hz : z + t = (n : Int) - 1) (hp : ¬ 0 < z) : (t : Int) = max (n : Int) 1 - 1 := by omega
theorem z74 {n t k0 c0 : Nat} (h : (t : Int) = max (n : Int) 1 - 1) (hc : c0 = k0 + t) : t = n - 1 ∧ (c0 : Int) = (k0 : Int) + (max (n : Int) 1 - 1) := by omega
theorem ycr {n k0 t c0 len : Nat} {z : Int} (hdn : n ≤ 1 ∨ k0 + (n - 1) ≤ len) (hc : c0 = k0 + t) (hz : z + t = (n : Int) - 1) (hp : 0 < z) : c0 < len := by omega
set_option maxRecDepth 100000 in
set_option maxHeartbeats 4000000 in
theorem zxd (w : World) (sd : Sl) (d : List Int) (c : Int) (n : Nat) (R : Ints w sd d) (hd : d.length ≤ 1048576) (hc : c ≤ 1073741824) (hn : n ≤ 1048576) :
 Calls Tryz.prog 108 #[sd.val, .int .i64 c, .int .i64 (n : Int)] w (yf6 d c n w) := by
 have hlen := R.len
 have HR := Lib.hid R
 clear R
 have HCK := Lib.hid (fun W => zhf sd W)
 have hnil : ∀ (x : Int) (w' : World), Grow w w' → ordR d c n = ([], 0, x) → yf6 d c n w (.returned (.tuple #[.slice none 0 0, .int .i64 0, errV x])) w' := fun x w' g e => ⟨.nil, by rw [e]; rfl, by rw [e]; exact Ints.nil _, fun k h => h.elim, g⟩
 have HN := Lib.hid hnil
 clear hnil
 by_cases h1 : 4096 < d.length
 · have e1 : ordR d c n = ([], 0, 19) := by unfold ordR; rw [if_pos h1]
   have HE := Lib.hid e1
   have hck := HCK.out
   rw [hlen, if_pos h1] at hck
   have HC2 := Lib.hid hck
   clear hck e1
   go_enter Tryz.func108, Tryz.ntmps108
   go_wp2_with (go_at_call 41; refine (HC2.out _).mono ?_; rintro e' w' ⟨rfl, hww⟩; subst w')
   go_ret3
   exact HN.out 19 _ grI HE.out
 · have hck := HCK.out
   rw [hlen, if_neg h1] at hck
   have HC2 := Lib.hid hck
   clear hck
   by_cases h2 : 400 < n ∨ c < 0
   · have e1 : ordR d c n = ([], 0, 1) := by unfold ordR; rw [if_neg h1, if_pos h2]
     have HE := Lib.hid e1
     clear e1
     have hn0 : ¬ (n : Int) < 0 := by omega
     by_cases h3 : 400 < n
     · have h3' : 400 < (n : Int) := by omega
       go_enter Tryz.func108, Tryz.ntmps108
       go_wp2_with (go_at_call 41; refine (HC2.out _).mono ?_; rintro e' w' ⟨rfl, hww⟩; subst w')
       go_ret3
       exact HN.out 1 _ grI HE.out
     · have h4 : c < 0 := by omega
       have h3' : ¬ 400 < (n : Int) := by omega
       clear h2
       go_enter Tryz.func108, Tryz.ntmps108
       go_wp2_with (go_at_call 41; refine (HC2.out _).mono ?_; rintro e' w' ⟨rfl, hww⟩; subst w')
       go_ret3
       exact HN.out 1 _ grI HE.out
   · have h3' : ¬ 400 < (n : Int) := by omega
     have h4 : ¬ c < 0 := by omega
     have hn0 : ¬ (n : Int) < 0 := by omega
     obtain ⟨k0, rfl⟩ := Int.eq_ofNat_of_zero_le (show 0 ≤ c by omega)
     have HL := Lib.hid (fun W => zlx sd k0 (by omega) (by omega) hc W)
     have HNE := Lib.hid (fun W => zte n hn W)
     rw [hlen] at HL
     by_cases h5 : max ((d.length : Int) - k0) 0 < max (n : Int) 1 - 1
     · have e1 : ordR d k0 n = ([], 0, 13) := by unfold ordR; rw [if_neg h1, if_neg h2, if_pos h5]
       have HE := Lib.hid e1
       clear e1 h2
       generalize max ((d.length : Int) - k0) 0 = u at *
       generalize max (n : Int) 1 - 1 = v at *
       go_enter Tryz.func108, Tryz.ntmps108
       go_wp2_with (first | (go_at_call 41; refine (HC2.out _).mono ?_; rintro e' w' ⟨rfl, hww⟩; subst w') | (go_at_call 133; refine (HL.out _).mono ?_; rintro e' w' ⟨rfl, hww⟩; subst w') | (go_at_call 134; refine (HNE.out _).mono ?_; rintro e' w' ⟨rfl, hww⟩; subst w'))
       go_ret3
       exact HN.out 13 _ grI HE.out
     · have e1 : ordR d k0 n = (zun d k0 n (n - 1), (k0 : Int) + (max (n : Int) 1 - 1), 0) := by unfold ordR; rw [if_neg h1, if_neg h2, if_neg h5, Int.toNat_natCast]
       have HE := Lib.hid e1
       have hdn : n ≤ 1 ∨ k0 + (n - 1) ≤ d.length := by omega
       have hn400 : n ≤ 400 := by omega
       have HDN := Lib.hid hdn
       clear e1 h2 hdn
       have h5' : ¬ max ((d.length : Int) - k0) 0 < max (n : Int) 1 - 1 := h5
       generalize max ((d.length : Int) - k0) 0 = u at HL h5'
       generalize hv : max (n : Int) 1 - 1 = v at HNE h5'
       have HV := Lib.hid hv
       clear h5 hv
       have hm0 : 0 ≤ (n : Int) := by omega
       have hm1 : (n : Int) ≤ 1048576 := by omega
       go_enter Tryz.func108, Tryz.ntmps108
       go_wp2_with (first | (go_at_call 41; refine (HC2.out _).mono ?_; rintro e' w' ⟨rfl, hww⟩; subst w') | (go_at_call 133; refine (HL.out _).mono ?_; rintro e' w' ⟨rfl, hww⟩; subst w') | (go_at_call 134; refine (HNE.out _).mono ?_; rintro e' w' ⟨rfl, hww⟩; subst w'))
       go_loopw [43] (fun i wr => ∃ (k : Nat) (l : List Int), k ≤ n ∧ i = .int .i64 k ∧ l.length = n ∧ Hid (∀ i, i < k → gt l i = i) ∧ wr = w.alloc (.cells (cellsOf l) 3)) (fun i _ => n - (intOf i).toNat)
       case atStart => exact ⟨0, List.replicate n 0, by omega, rfl, by simp, fun i hi => absurd hi (by omega), by simp⟩
       case round =>
        obtain ⟨k, l, hk, rfl, hl, hid, rfl⟩ := hrel
        by_cases hlt : k < n
        · have HI := Lib.hid (z7i n k l hl hlt hid.out)
          go_wp2_with fail
          go_roundw
          case rel => exact ⟨k + 1, l.set k (k : Int), by omega, by go_num, by simp [hl], HI.out, rfl⟩
          case measure => simp [intOf]; omega
        · have HO := Lib.hid (z7h n l hl (fun i hi => hid.out i (by omega)))
          have HL0 := hl
          clear hl hid
          go_wp2_with fail
          go_loopw [12, 1] (fun i c wr => ∃ (t c0 : Nat) (z : Int) (l : List Int) (x : Ext), (t : Int) ≤ max (n : Int) 1 - 1 ∧ z + t = (n : Int) - 1 ∧ i = .int .i64 z ∧ c = .int .i64 (c0 : Int) ∧ Hid (c0 = k0 + t) ∧ Hid (l = zun d k0 n t) ∧ l.length = n ∧ wr = (w.alloc (.cells (cellsOf l) 3)).plus x) (fun i _ _ => (intOf i).toNat)
          case atStart => exact ⟨0, k0, _, l, Ext.none, by omega, by first | rfl | omega, rfl, rfl, rfl, HO.out, HL0, by rw [zjr]⟩
          case round =>
           obtain ⟨t, c0, z, l, x, ht, hz, rfl, rfl, hc0', hord, hl, rfl⟩ := hrel
           have hc0 := hc0'.out
           by_cases hpos : 0 < z
           · obtain ⟨j, rfl⟩ := Int.eq_ofNat_of_zero_le (Int.le_of_lt hpos)
             have hjb : (j : Int) ≤ 1048576 := ycq hz hm1
             have hc0d : c0 < d.length := ycr HDN.out hc0 hz hpos
             have hcd := (HR.out.at c0 hc0d).2
             have hb := (HR.out.at c0 hc0d).1
             have hbi := ziy (gt d c0) ((j : Int) + 1) (zxc hpos)
             have HB := Lib.hid (fun W => zmu (gt d c0) ((j : Int) + 1) (zxc hpos) (z75 hjb) W)
             obtain ⟨kn, hkn⟩ := Int.eq_ofNat_of_zero_le hbi.1
             rw [hkn] at hbi HB
             obtain ⟨b3, b4, b7, b8, b6, hnj⟩ := yhj hz rfl hl hbi.2
             have hstep : Hid (zoc l j kn = zun d k0 n (t + 1)) := by
              show _ = zoc _ _ _
              rw [hord.out, hnj, ← hc0, hkn, Int.toNat_natCast]
             have b9 : kn < n := hl ▸ b8
             have b10 : j < n := hl ▸ b7
             have b1 : (c0 : Int) < (d.length : Int) := Int.ofNat_lt.2 hc0d
             have b2 : (c0 : Int) ≤ 1048576 := ycp hc0d hd
             have HC1 : Hid (c0 + 1 = k0 + (t + 1)) := by rw [Hid, hc0]; exact Nat.add_assoc _ _ _
             obtain ⟨hn1, hn2⟩ := z2u hz hpos
             have HN1 := Lib.hid hn1
             have HN2 := Lib.hid hn2
             have b5 : (0 : Int) ≤ (j : Int) := Int.le_of_lt hpos
             clear hkn hord hbi hc0 hnj hn1 hn2 ht hz
             go_wp2_with (go_at_call 135; refine (HB.out _).mono ?_; rintro e' w' ⟨rfl, hww⟩; subst w')
             go_region
             go_wp2_with fail
             go_roundw
             case rel => exact ⟨t + 1, c0 + 1, (j : Int) - 1, zoc l j kn, _, HN1.out, HN2.out, by first | rfl | go_num, by first | rfl | go_num, HC1, hstep, by rw [zrc]; exact hl, zxi _ _⟩
             case measure => simp only [intOf]; exact z2t hpos
           · have hfin := hord
             clear hc0
             have hstop : (t : Int) = max (n : Int) 1 - 1 := z2v ht hz hpos
             go_wp2_with fail
             go_ret3
             obtain ⟨ht1, hc9⟩ := z74 hstop hc0'.out
             refine ⟨.mk w.heap.size 0 n n, ?_, ?_, ?_, grI⟩
             · rw [HE.out]
               rw [← hc9]
               rfl
             · rw [HE.out]
               show Ints _ _ (zun d k0 n (n - 1))
               rw [← ht1, ← hfin.out]
               exact ⟨hl.symm, Nat.le_refl _, fun i hi => by
                show World.cell? _ ⟨w.heap.size, 0 + i, none⟩ = _
                rw [Nat.zero_add, zc4 _ _ _ _ (by simp only [zaa]; exact Nat.lt_succ_self _), zbu, if_pos rfl, za5 _ _ hi]⟩
             · intro k hk
               have hk : k = w.heap.size := hk
               subst hk
               exact ⟨Nat.le_refl _, by simp only [zac, zaa]; omega⟩
end Go.Proofs.YthfalocligkamaaGreatDoor
