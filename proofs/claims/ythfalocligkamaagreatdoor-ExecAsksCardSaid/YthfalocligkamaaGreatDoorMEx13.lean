/- The walk of exec's do: an effect with nothing within. -/
import Derived.Test.YthfalocligkamaaGreatDoorMEx8
import Derived.Test.YthfalocligkamaaGreatDoorMEx11
import Derived.Test.YthfalocligkamaaGreatDoorMEx12
import Derived.Test.YthfalocligkamaaGreatDoorMEx1
namespace Go.Proofs.YthfalocligkamaaGreatDoor
open Go Go.RowKit Go.Shelf
def yae (e : Eff) : Prop := ∀ (w : World) (b : Nat) (own : Nat → Prop) (E : Em) (_ : Emt w b own E) (d : List Int) (_ : Oq d E) (_ : d.length ≤ 1048576) (_ : GlobE w own) (x : Ctx) (_ : x.ctl = 0 ∨ x.ctl = 1) (_ : x.tgt ≤ 9223372036854775807) (lim : Nat → Prop) (_ : e.In w lim) (_ : ∀ k, own k → ¬ lim k) (_ : ∀ k, lim k → k < w.heap.size),
    Calls Tryz.prog 30 #[.agg (doR b x), .agg e.row] w fun r w' => r = .returned (.tuple #[]) ∧ EPost w b own (e.run x E) w'
theorem z4k {who ctl tgt : Int} (hc : ctl = 0 ∨ ctl = 1) (k : Nat) (hk : k < (whomL who ctl tgt).length) : gt (whomL who ctl tgt) k = 0 ∨ gt (whomL who ctl tgt) k = 1 := by
 have key : ∀ p, p ∈ whomL who ctl tgt → p = 0 ∨ p = 1 := fun p hp => by
  unfold whomL at hp
  (repeat' split at hp) <;> simp at hp <;> omega
 refine key _ ?_
 rw [zcw _ _ hk]; exact List.getElem_mem hk
theorem zy1 (who ctl tgt : Int) : (whomL who ctl tgt).length ≤ 2 := by
 unfold whomL
 (repeat' split) <;> simp
theorem zsw (E : Em) (op n m ctl : Int) (l : List Int) (k : Nat) (hk : k < l.length) : E.leafP op n m ctl (l.take (k + 1)) = if (E.leafP op n m ctl (l.take k)).err ≠ 0 then E.leafP op n m ctl (l.take k) else (E.leafP op n m ctl (l.take k)).toPl op n m ctl (gt l k).toNat := by
 unfold Em.leafP
 rw [List.take_succ_eq_append_getElem hk, zcw _ _ hk, List.foldl_append]
 rfl
theorem zqw {E : Em} {op who src tgt : Int} {q : Nat} (h : zmp E.state op who src tgt = some q) : E.err = 0 ∧ zc9 E.now op q = true := by
 by_cases he : E.err = 0
 · have := zw5 h
   unfold Em.state at this
   rw [if_neg (by rw [he]; simp)] at this
   exact ⟨he, this⟩
 · unfold Em.state at h
   rw [if_pos he, ycn] at h
   cases h
set_option maxRecDepth 100000 in
set_option maxHeartbeats 8000000 in
theorem zy9 (op n m who : Int) (a : Option Addr) (c : Nat) (l : List Eff) (ok : (Eff.mk op n m who a c l).Ok) (h20 : op ≠ 20) (h21 : op ≠ 21) (h22 : op ≠ 22) : yae (.mk op n m who a c l) := by
 intro w b own E R d hQ hd GL x hc ht lim _ _ _
 rcases ok with ⟨_, hn, hm, hp, _, _, _, _, _⟩
 rw [Eff.row_mk]
 have HR := Lib.hid R
 by_cases he : E.err = 0
 · have hrun : (Eff.mk op n m who a c l).run x E = E.leaf op n m who x := by
    rw [Eff.run_mk]; unfold doF
    rw [if_neg (by rw [he]; simp), if_neg h20, if_neg h21, if_neg h22]
   rw [hrun]
   have HEr := Lib.hid (fun W (g : Grow w W) => by have := zas W b own E (R.grow g); rw [he, za4] at this; exact this)
   have HPl := Lib.hid (fun W => zoi W b x op n m who a l.length c hc)
   have HJ : Hid (∀ k, Oq d (E.leafP op n m x.ctl ((whomL who x.ctl x.tgt).take k))) := fun k => (Jv.leafP (P := fun _ => True) zlt op n m x.ctl (fun _ => trivial) (fun _ => trivial) (fun _ _ => trivial) _ hQ.jv).1
   have hLin := Lib.hid (fun k hk => z4k (who := who) (tgt := x.tgt) hc k hk)
   have hL2 := zy1 who x.ctl x.tgt
   have HSc := Lib.hid (fun k hk => zsw E op n m x.ctl (whomL who x.ctl x.tgt) k hk)
   have HFP : Hid (∀ (W : World) (own2 : Nat → Prop) (F : Em), Emt W b own2 F → Oq d F → GlobE W own2 → ∀ p : Nat, p = 0 ∨ p = 1 → Calls Tryz.prog 51 #[.agg (doR b x), .agg (exR op n m who a l.length c), .int .i64 (p : Int)] W fun r w' => r = .returned (.tuple #[]) ∧ EPost W b own2 (F.toPl op n m x.ctl p) w') := fun W own2 F R2 Q2 G2 p hp => zkm W b own2 F R2 Q2 hd G2 x op n m who a l.length c p hp hc hn
   have HOb : Hid (∀ (W : World) (own2 : Nat → Prop) (F : Em), Emt W b own2 F → Oq d F → GlobE W own2 → Calls Tryz.prog 52 #[.agg (doR b x), .agg (exR op n m who a l.length c)] W fun r w' => (∃ q : Nat, r = .returned (.tuple #[.int .i64 (q : Int), .bool true]) ∧ zmp F.state op who x.src x.tgt = some q ∧ Grow W w') ∨ (∃ id : Int, r = .returned (.tuple #[.int .i64 id, .bool false]) ∧ zmp F.state op who x.src x.tgt = none ∧ Grow W w')) := fun W own2 F R2 Q2 G2 => zqb W b own2 F R2 Q2 hd G2.base x op n m who a l.length c ht
   have HFO : Hid (∀ (W : World) (own2 : Nat → Prop) (F : Em), Emt W b own2 F → Oq d F → GlobE W own2 → ∀ q : Nat, zmp F.state op who x.src x.tgt = some q → Calls Tryz.prog 53 #[.agg (doR b x), .agg (exR op n m who a l.length c), .int .i64 (q : Int)] W fun r w' => r = .returned (.tuple #[]) ∧ EPost W b own2 (F.toOb op n m q) w') := fun W own2 F R2 Q2 G2 q hq => zkl W b own2 F R2 Q2 hd G2 x op n m who a l.length c q (zqw hq).1 (zqw hq).2 hn hm hp
   have hlf : E.leaf op n m who x = (E.leafP op n m x.ctl ((whomL who x.ctl x.tgt).take (whomL who x.ctl x.tgt).length)).leafO op n m (zmp (E.leafP op n m x.ctl ((whomL who x.ctl x.tgt).take (whomL who x.ctl x.tgt).length)).state op who x.src x.tgt) := by rw [List.take_length]; rfl
   rw [hlf]
   have hLF0 : Hid (E.leafP op n m x.ctl ((whomL who x.ctl x.tgt).take 0) = E) := rfl
   have HGL := Lib.hid GL
   have b20 : (op == 20) = false := by simpa using h20
   have b21 : (op == 21) = false := by simpa using h21
   have b22 : (op == 22) = false := by simpa using h22
   clear R hQ GL hrun hlf h20 h21 h22 hn hm hp he hc ht
   generalize whomL who x.ctl x.tgt = L at *
   go_enter Tryz.func30, Tryz.ntmps30
   go_wp2_with (go_at_call 17; refine (HEr.out _ grI).mono ?_; rintro e' w' ⟨rfl, nx, rfl⟩)
   refine (HPl.out _).mono ?_
   rintro e' w2 ⟨s, rfl, hI, hsf, hG2⟩
   have hsn := hI.len
   have hg0 : Grow w w2 := Grow.trans grI hG2
   have hb0 : Boxd w2 w.heap.size (doR b x) := ((Boxd.new w (doR b x) 70).grow (show Grow (w.alloc (.cells (doR b x) 70)) _ from grI)).grow hG2
   have hb1 : Boxd w2 (w.heap.size + 1) (exR op n m who a l.length c) := by
    refine Boxd.grow ?_ hG2
    have := Boxd.new (w.alloc (.cells (doR b x) 70)) (exR op n m who a l.length c) 32
    rw [zaa] at this
    exact this.grow grI
   have hT0 : Turn w2 b own (E.leafP op n m x.ctl (L.take 0)) w2 own := by rw [hLF0.out]; exact Turn.first (HR.out.grow hg0)
   have hso : ∀ q, s.owns q → ¬ own q := fun q hq h => by
    have h1 := hsf q hq
    have h2 := HR.out.lt _ h
    simp only [zaa, zac] at h1
    omega
   have HI := Lib.hid hI
   have HB0 := Lib.hid hb0
   have HB1 := Lib.hid hb1
   have HT0 := Lib.hid hT0
   have HSO := Lib.hid hso
   have HG0 := Lib.hid hg0
   clear hI hsf hG2 hg0 hb0 hb1 hT0 hso HPl HEr
   go_wp2_with fail
   go_loopw [20] (fun i wr => ∃ (k : Nat) (own2 : Nat → Prop), k ≤ L.length ∧ i = .int .i64 k ∧ Turn w2 b own (E.leafP op n m x.ctl (L.take k)) wr own2) (fun i _ => L.length - (intOf i).toNat)
   case atStart => exact ⟨0, own, by omega, rfl, HT0.out⟩
   case round =>
    obtain ⟨k, own2, hk, rfl, hT⟩ := hrel
    have HT := Lib.hid hT
    clear hT
    obtain ⟨x1, x2, x3⟩ := HB0.out.kept HT.out.kept (fun h => by have := HR.out.lt _ h; omega)
    obtain ⟨y1, y2, y3⟩ := HB1.out.kept HT.out.kept (fun h => by have := HR.out.lt _ h; omega)
    by_cases hlt : k < L.length
    · obtain ⟨hat1, hat2⟩ := (HI.out.kept HT.out.kept (fun hl h => HSO.out _ (zbs HI.out hl) h)).at k hlt
      have hq := HJ.out k
      have hs := HSc.out k hlt
      obtain ⟨p, hpe, hp⟩ : ∃ p : Nat, gt L k = p ∧ (p = 0 ∨ p = 1) := by
       rcases hLin.out k hlt with h | h
       · exact ⟨0, h, Or.inl rfl⟩
       · exact ⟨1, h, Or.inr rfl⟩
      rw [hpe] at hat2 hs
      rw [Int.toNat_natCast] at hs
      clear hpe
      by_cases he : (E.leafP op n m x.ctl (L.take k)).err = 0
      · have HEr := Lib.hid (fun W (g : Grow wr W) => by have := zas W b own2 _ (HT.out.em.grow g); rw [he, za4] at this; exact this)
        rw [if_neg (by rw [he]; simp)] at hs
        have HP := Lib.hid (fun W (g : Grow wr W) => HFP.out W own2 _ (HT.out.em.grow g) hq ((HT.out.glob (HGL.out.grow HG0.out)).grow g) p hp)
        rw [← hs] at HP
        clear hs he hq hp
        go_wp2_with (go_at_call 17; refine (HEr.out _ grI).mono ?_; rintro e' w' ⟨rfl, nx, rfl⟩)
        refine (HP.out _ grI).mono ?_
        rintro e' w4 ⟨rfl, hE⟩
        obtain ⟨own4, T4⟩ := HT.out.step grI hE
        have HT4 := Lib.hid T4
        clear hE T4 x1 x2 y1 y2
        go_wp2_with fail
        go_roundw
        case rel => exact ⟨k + 1, own4, by omega, by go_num, HT4.out⟩
        case measure => simp [intOf]; omega
      · have HEr := Lib.hid (fun W (g : Grow wr W) => by have := zas W b own2 _ (HT.out.em.grow g); rw [zap he] at this; exact this)
        rw [if_pos he] at hs
        have HS := Lib.hid hs
        clear hs he hq hp
        go_wp2_with (go_at_call 17; refine (HEr.out _ grI).mono ?_; rintro e' w' ⟨rfl, nx, rfl⟩)
        clear x1 x2 y1 y2
        go_roundw
        case rel => exact ⟨k + 1, own2, by omega, by go_num, by rw [HS.out]; exact HT.out.grow grI⟩
        case measure => simp [intOf]; omega
    · have hke : k = L.length := by omega
      subst hke
      have hq := HJ.out L.length
      have HO2 := Lib.hid (fun W (g : Grow wr W) => HOb.out W own2 _ (HT.out.em.grow g) hq ((HT.out.glob (HGL.out.grow HG0.out)).grow g))
      have HF2 := Lib.hid (fun W (g : Grow wr W) => HFO.out W own2 _ (HT.out.em.grow g) hq ((HT.out.glob (HGL.out.grow HG0.out)).grow g))
      clear hq HSc HJ HFP HOb HFO hLin
      generalize hF : E.leafP op n m x.ctl (L.take L.length) = F at *
      have HFE := Lib.hid hF
      clear hF
      go_wp2_with fail
      refine (HO2.out _ grI).mono ?_
      rintro e' w5 (⟨q, rfl, hN, hG5⟩ | ⟨id, rfl, hN, hG5⟩)
      · have HP := Lib.hid (fun W (g : Grow wr W) => HF2.out W g q hN)
        have HN := Lib.hid hN
        obtain ⟨n5, rfl⟩ := hG5
        clear hN HO2 HF2
        go_wp2_with fail
        refine (HP.out _ grI).mono ?_
        rintro e' w6 ⟨rfl, hE⟩
        obtain ⟨own6, T6⟩ := HT.out.step grI hE
        have HT6 := Lib.hid T6
        clear hE T6
        go_wp2_with fail
        go_end0
        exact ⟨rfl, by rw [HFE.out, HN.out]; exact HT6.out.post HG0.out⟩
      · have HN := Lib.hid hN
        obtain ⟨n5, rfl⟩ := hG5
        clear hN HO2 HF2
        go_wp2_with fail
        go_end0
        exact ⟨rfl, by rw [HFE.out, HN.out]; exact (HT.out.post HG0.out).more grI⟩
 · have HEr := Lib.hid (fun W (g : Grow w W) => by have := zas W b own E (R.grow g); rw [zap he] at this; exact this)
   rw [Eff.run_err _ x he]
   clear R hQ GL he h20 h21 h22 hn hm hp hc ht
   go_enter Tryz.func30, Tryz.ntmps30
   go_wp2_with (go_at_call 17; refine (HEr.out _ grI).mono ?_; rintro e' w' ⟨rfl, nx, rfl⟩)
   refine bodyPost_ret (results_none rfl _ _ _) rfl ?_
   exact ⟨rfl, HR.out.stay grI⟩
end Go.Proofs.YthfalocligkamaaGreatDoor
namespace Go.Proofs.YthfalocligkamaaGreatDoor
open Go Go.RowKit Go.Shelf
theorem zm4 {S : St} {n : Int} (h : n < 0 ∨ 3 < n) (ctl src : Int) : groupN S n ctl src = [] := by unfold groupN; rw [if_pos (by omega)]
set_option maxRecDepth 100000 in
set_option maxHeartbeats 4000000 in
theorem zli (S : St) (V : SV) (w : World) (h : RS S V w) (x : Ctx) (n : Int) :
 Calls Tryz.prog 12 #[.agg (stA V S.num), .int .i64 n, .agg (ctR x)] w fun e w' => ∃ s : Sl, e = .returned s.val ∧ Ints w' s (groupN S n x.ctl x.src) ∧ (∀ q, s.owns q → w.heap.size ≤ q) ∧ Grow w w' := by
 by_cases h0 : n < 0
 · rw [zm4 (Or.inl h0)]
   have HH := Lib.hid h
   have b0 : decide (n < 0) = true := by simpa using h0
   clear h
   go_enter Tryz.func12, Tryz.ntmps12
   go_wp2_with (go_at_call 32; refine ((HH.out.grow grI).check).mono ?_; rintro e w' ⟨rfl, n0, rfl⟩)
   go_ret
   exact ⟨.nil, rfl, Ints.nil _, fun q hq => hq.elim, grI⟩
 by_cases h3 : 3 < n
 · rw [zm4 (Or.inr h3)]
   have HH := Lib.hid h
   have b0 : decide (n < 0) = false := by simpa using h0
   have b3 : decide (3 < n) = true := by simpa using h3
   clear h
   go_enter Tryz.func12, Tryz.ntmps12
   go_wp2_with (go_at_call 32; refine ((HH.out.grow grI).check).mono ?_; rintro e w' ⟨rfl, n0, rfl⟩)
   go_ret
   exact ⟨.nil, rfl, Ints.nil _, fun q hq => hq.elim, grI⟩
 · have : n = 0 ∨ n = 1 ∨ n = 2 ∨ n = 3 := by omega
   rcases this with rfl | rfl | rfl | rfl
   · exact z4o S V w h x
   · exact z4p S V w h x
   · exact z4q S V w h x
   · exact z4r S V w h x
def eachTo (f : Ctx → Em → Em) (x : Ctx) (L : List Int) (E : Em) (k : Nat) : Em := (L.take k).foldl (eachOf f x) E
theorem zoy (f : Ctx → Em → Em) (x : Ctx) (L : List Int) (E : Em) (k : Nat) (hk : k < L.length) : eachTo f x L E (k + 1) = eachOf f x (eachTo f x L E k) (gt L k) := by
 unfold eachTo
 rw [List.take_succ_eq_append_getElem hk, zcw _ _ hk, List.foldl_append]; rfl
theorem Jv.eachTo {d : List Int} {P : St → Prop} {E : Em} (h : Jv d P E) {f : Ctx → Em → Em} (hf : ∀ (x : Ctx) {E : Em}, Jv d P E → Jv d P (f x E)) (x : Ctx) (L : List Int) (k : Nat) : Jv d P (eachTo f x L E k) :=
 Jv.fold _ (fun id _ _ h => h.eachOf hf x id) h
theorem z09 {S : St} (h : Right S) (n ctl src : Int) (k : Nat) (hk : k < (groupN S n ctl src).length) : ∃ q : Nat, gt (groupN S n ctl src) k = q ∧ q < S.objs.length := by
 have hm : gt (groupN S n ctl src) k ∈ groupN S n ctl src := by rw [zcw _ _ hk]; exact List.getElem_mem hk
 have h8 : gt (groupN S n ctl src) k ∈ S.list 8 := by
  unfold groupN at hm ⊢
  split at hm
  · cases hm
  · rename_i hh
    rw [if_neg hh]
    exact (List.mem_filter.1 hm).1
 obtain ⟨o1, o2, _, _⟩ := h.zon.ok 8 (by decide) _ h8
 obtain ⟨q, hq⟩ := Int.eq_ofNat_of_zero_le o1
 exact ⟨q, hq, by omega⟩
set_option maxRecDepth 100000 in
set_option maxHeartbeats 8000000 in
theorem z4n (n m who : Int) (a : Option Addr) (c : Nat) (e0 : Eff) (ok0 : e0.Ok) (IH : yae e0) (w : World) (b : Nat) (own : Nat → Prop) (E : Em) (R : Emt w b own E) (d : List Int) (hQ : Oq d E) (hd : d.length ≤ 1048576) (GL : GlobE w own) (x : Ctx) (hc : x.ctl = 0 ∨ x.ctl = 1) (lim : Nat → Prop) (hI : Eff.In w lim (.mk 20 n m who a c [e0])) (hol : ∀ k, own k → ¬ lim k) (hlim : ∀ k, lim k → k < w.heap.size) (he : E.err = 0) :
 Calls Tryz.prog 49 #[.agg (doR b x), .agg (exR 20 n m who a 1 c)] w fun r w' => r = .returned (.tuple #[]) ∧ EPost w b own ((groupN E.now n x.ctl x.src).foldl (eachOf e0.run x) E) w' := by
 have HR := Lib.hid R
 have hst : E.state = E.now := by unfold Em.state; rw [if_neg (by rw [he]; simp)]
 have hRt := (hQ.err he).right
 have HSt := Lib.hid (fun W (g : Grow w W) => by have := zcl W b own E (R.grow g) (hQ.mo hd); rw [hst] at this; exact this)
 have HGr := Lib.hid (fun (V : SV) W (g : Grow w W) (r : RepSt W V E.now) => by
  have h1 := hQ.rs (V := V) (GL.base.grow g) (by rw [hst]; exact r)
  rw [hst] at h1
  exact zli E.now V W h1 x n)
 have HJ : Hid (∀ k, Jv d (fun T => E.now.objs.length ≤ T.objs.length) (eachTo e0.run x (groupN E.now n x.ctl x.src) E k)) := fun k => Jv.eachTo ⟨hQ, Or.inr (Nat.le_refl _)⟩ (fun x E h => Jv.run (z5m _) (fun _ _ => trivial) e0 ok0 (fun _ => trivial) (fun _ => trivial) x h) x _ k
 have HGI := Lib.hid (fun k hk => z09 hRt n x.ctl x.src k hk)
 have hgl : (groupN E.now n x.ctl x.src).length ≤ 400 := by
  unfold groupN
  split
  · simp
  · exact Nat.le_trans (List.length_filter_le _ _) (hRt.smallN.list 8 (by omega))
 have HSc := Lib.hid (fun k hk => zoy e0.run x (groupN E.now n x.ctl x.src) E k hk)
 have hfin : Hid ((groupN E.now n x.ctl x.src).foldl (eachOf e0.run x) E = eachTo e0.run x (groupN E.now n x.ctl x.src) E (groupN E.now n x.ctl x.src).length) := by unfold eachTo; rw [List.take_length]; rfl
 rw [hfin.out]
 clear hfin
 have h00 : Hid (eachTo e0.run x (groupN E.now n x.ctl x.src) E 0 = E) := rfl
 have HGL := Lib.hid GL
 obtain ⟨bs, os, rfl, hbs⟩ := hI.at'.addr (by simp)
 have HIn := Lib.hid hI
 have HOL := Lib.hid hol
 have HLM := Lib.hid hlim
 have hon := hRt.many
 clear R hQ GL hI hol hlim hst hRt
 generalize E.now = S at *
 generalize groupN S n x.ctl x.src = L at *
 go_enter Tryz.func49, Tryz.ntmps49
 go_wp2_with fail
 go_region_held3 (fun W => W.blk w.heap.size = doR b x ∧ W.blk (w.heap.size + 1) = exR 20 n m who (some ⟨bs, os, none⟩) 1 c ∧ W.cell? ⟨w.heap.size, 0, none⟩ = some (.pointer (some ⟨b, 0, none⟩)) ∧ W.cell? ⟨w.heap.size + 1, 1, none⟩ = some (I n)) (simp [go_sem, *]) (first | (go_at_call 18; refine (HSt.out _ grI).mono ?_; rintro e' w' ⟨V, rfl, hR2, hU2, nS, rfl⟩; (try simp only [zae] at hR2); (try simp only [zad] at hR2); have HR2 := Lib.hid hR2; clear hR2 hU2) | (go_at_call 12; refine (HGr.out V _ grI (HR2.out.grow grI)).mono ?_; rintro e' w' ⟨s, rfl, hI, hsf, nG, rfl⟩; (try simp only [zae] at hI); (try simp only [zad] at hI); have hsn := hI.len; have HI := Lib.hid hI; have HSF := Lib.hid hsf; clear hI hsf))
 have hb0 : Boxd (((w.alloc (.cells (doR b x) 70)).alloc (.cells (exR 20 n m who (some ⟨bs, os, none⟩) 1 c) 32)).plus (nS.late.and nG)) w.heap.size (doR b x) := (Boxd.new w (doR b x) 70).grow grI
 have hb1 : Boxd (((w.alloc (.cells (doR b x) 70)).alloc (.cells (exR 20 n m who (some ⟨bs, os, none⟩) 1 c) 32)).plus (nS.late.and nG)) (w.heap.size + 1) (exR 20 n m who (some ⟨bs, os, none⟩) 1 c) := by
  have := Boxd.new (w.alloc (.cells (doR b x) 70)) (exR 20 n m who (some ⟨bs, os, none⟩) 1 c) 32
  rw [zaa] at this
  exact this.grow grI
 have hg0 : Grow w (((w.alloc (.cells (doR b x) 70)).alloc (.cells (exR 20 n m who (some ⟨bs, os, none⟩) 1 c) 32)).plus (nS.late.and nG)) := grI
 have hso : ∀ q, s.owns q → ¬ own q := fun q hq h => by
  have h1 := HSF.out q hq
  have h2 := HR.out.lt _ h
  simp only [zaa, zac] at h1
  omega
 have hT0 : Turn (((w.alloc (.cells (doR b x) 70)).alloc (.cells (exR 20 n m who (some ⟨bs, os, none⟩) 1 c) 32)).plus (nS.late.and nG)) b own (eachTo e0.run x L E 0) (((w.alloc (.cells (doR b x) 70)).alloc (.cells (exR 20 n m who (some ⟨bs, os, none⟩) 1 c) 32)).plus (nS.late.and nG)) own := by rw [h00.out]; exact Turn.first (HR.out.grow hg0)
 have HB0 := Lib.hid hb0
 have HB1 := Lib.hid hb1
 have HG0 := Lib.hid hg0
 have HSO := Lib.hid hso
 have HT0 := Lib.hid hT0
 clear hb0 hb1 hg0 hso hT0 HSF HR2 HSt HGr
 generalize ((w.alloc (.cells (doR b x) 70)).alloc (.cells (exR 20 n m who (some ⟨bs, os, none⟩) 1 c) 32)).plus (nS.late.and nG) = w2 at *
 go_wp2_with fail
 go_loopw [17] (fun i wr => ∃ (k : Nat) (own2 : Nat → Prop), k ≤ L.length ∧ i = .int .i64 k ∧ Turn w2 b own (eachTo e0.run x L E k) wr own2) (fun i _ => L.length - (intOf i).toNat)
 case atStart => exact ⟨0, own, by omega, rfl, HT0.out⟩
 case round =>
  obtain ⟨k, own2, hk, rfl, hT⟩ := hrel
  have HT := Lib.hid hT
  clear hT
  by_cases hlt : k < L.length
  · obtain ⟨x1, x2, x3⟩ := HB0.out.kept HT.out.kept (fun h => by have := HR.out.lt _ h; omega)
    obtain ⟨y1, y2, y3⟩ := HB1.out.kept HT.out.kept (fun h => by have := HR.out.lt _ h; omega)
    obtain ⟨hat1, hat2⟩ := (HI.out.kept HT.out.kept (fun hl h => HSO.out _ (zbs HI.out hl) h)).at k hlt
    have hIr := (HIn.out.grow HG0.out).kept HOL.out HT.out.kept
    obtain ⟨z1, z2, z3, z4⟩ := hIr.at'.get 0 (by simp)
    rw [Nat.zero_mul, Nat.add_zero] at z2 z3
    rw [List.getElem_cons_zero] at z3
    have z4 : 1 ≤ c := z4
    obtain ⟨q, hq, hqS⟩ := HGI.out k hlt
    have hs := HSc.out k hlt
    rw [hq] at hat2 hs
    have hj := HJ.out k
    have hown2 : ∀ j, own2 j → ¬ lim j := fun j hj => by
     rcases HT.out.own j hj with h | h
     · exact HOL.out j h
     · exact fun hl => by have := HLM.out j hl; have := HG0.out.size; omega
    have hP : (eachTo e0.run x L E k).err = 0 → ∀ W, Grow wr W → Calls Tryz.prog 30 #[.agg (doR b { x with tgt := (q : Int) + 1 }), .agg e0.row] W fun r w' => r = .returned (.tuple #[]) ∧ EPost W b own2 (e0.run { x with tgt := (q : Int) + 1 } (eachTo e0.run x L E k)) w' := fun _ W g =>
     IH W b own2 _ (HT.out.em.grow g) d hj.1 hd ((HT.out.glob (HGL.out.grow HG0.out)).grow g) { x with tgt := (q : Int) + 1 } hc (by show (q : Int) + 1 ≤ _; omega) lim ((hIr.sub (by simp)).grow g) hown2 (fun j hl => by have := HLM.out j hl; have := HG0.out.size; have := HT.out.kept.size; have := g.size; omega)
    have HAt := Lib.hid (fun W => yaf W q (by omega))
    have HStk := Lib.hid (fun W (g : Grow wr W) => zcl W b own2 _ (HT.out.em.grow g) (hj.1.mo hd))
    by_cases he : (eachTo e0.run x L E k).err = 0
    · have hst2 : (eachTo e0.run x L E k).state = (eachTo e0.run x L E k).now := by unfold Em.state; rw [if_neg (by rw [he]; simp)]
      rw [hst2] at HStk
      have hP := hP he
      rw [Eff.row_is] at hP z3
      have HP := Lib.hid hP
      have hlen : q < (eachTo e0.run x L E k).now.objs.length := by have := hj.2.resolve_left (fun h => h he); omega
      have hmany := (hj.1.err he).right.many
      have HEr := Lib.hid (fun W (g : Grow wr W) => by have := zas W b own2 _ (HT.out.em.grow g); rw [he, za4] at this; exact this)
      have hO : Hid (∀ (nS : Ext) (V : SV), RepSt (wr.plus nS) V (eachTo e0.run x L E k).now → (∀ j, V.uses j → wr.heap.size ≤ j ∧ j < (wr.plus nS).heap.size) → V.objs.n = (eachTo e0.run x L E k).now.objs.length ∧ V.objs.b < wr.heap.size + nS.objs.size ∧ ¬ V.objs.b < wr.heap.size ∧ zc8 wr nS V.objs.b (V.objs.o + q * 18 + 3) = some (I (gt (rowAt (eachTo e0.run x L E k).now.objs q) 3))) := by
       intro nS V hR hU
       obtain ⟨hob, how, hosz, hosub, hoc⟩ := hR.objs.at (by omega) q hlen
       have hge : ¬ V.objs.b < wr.heap.size := by have := (hU _ (Or.inl (Sl.owns_b (by rw [hR.objs.len]; omega)))).1; omega
       have hoc := hoc 3 (by omega)
       rw [zd6, if_neg hge] at hoc
       rw [zac] at hob
       exact ⟨hR.objs.len, hob, hge, hoc⟩
      have hqL : (q : Int) < ((eachTo e0.run x L E k).now.objs.length : Int) := by omega
      have hes : eachOf e0.run x (eachTo e0.run x L E k) (q : Int) = if gt (rowAt (eachTo e0.run x L E k).now.objs q) 3 = 8 then e0.run { x with tgt := (q : Int) + 1 } (eachTo e0.run x L E k) else eachTo e0.run x L E k := by
       unfold eachOf; rw [if_neg (by rw [he]; simp), Int.toNat_natCast]
      rw [hes] at hs
      clear hes hj hP he hIr hq hst2
      generalize eachTo e0.run x L E k = Ek at *
      generalize e0.run { x with tgt := (q : Int) + 1 } Ek = E4 at *
      generalize Ek.now = T at *
      generalize gt (rowAt T.objs q) 3 = z at *
      by_cases h8 : z = 8
      · rw [if_pos h8] at hs
        have hz : (z != 8) = false := by rw [h8]; rfl
        have HS := Lib.hid hs
        clear hs h8
        go_wp2_with fail
        refine (HStk.out _ grI).mono ?_
        rintro e' w4 ⟨V4, rfl, hR4, hU4, nS4, rfl⟩
        obtain ⟨o1, o2, o3, o4⟩ := hO.out _ V4 hR4 hU4
        have hge2 := o3
        clear hR4 hU4 hO o3
        go_wp2_with (first | (go_at_call 17; refine (HEr.out _ grI).mono ?_; rintro e' w' ⟨rfl, nx, rfl⟩) | (go_at_call 70; refine (HAt.out _).mono ?_; rintro e' w' ⟨rfl, nx, rfl⟩))
        refine zat [0, 1, 2, 3, 4] 5 [] (by kernel_rfl) (by kernel_rfl) ?_; simp only [zby, List.getElem?_cons_zero, List.getElem?_cons_succ]; (repeat (go_big_quiet_step ( fail ))); refine wpQuiet_nil ?_; rintro _ ⟨nx, rfl⟩
        go_wp2_with (go_at_call 30; refine (HP.out _ grI).mono ?_; rintro e' w5 ⟨rfl, hE⟩; have HE := Lib.hid hE; clear hE)
        obtain ⟨own5, T5⟩ := HT.out.step grI HE.out
        rw [← HS.out] at T5
        have HT5 := Lib.hid T5
        clear T5 x1 x2 y1 y2 o1 o2 o4 hz z1 z2 z3
        go_wp2_with fail
        go_roundw
        case rel => exact ⟨k + 1, own5, by omega, by go_num, HT5.out⟩
        case measure => simp [intOf]; omega
      · rw [if_neg h8] at hs
        have hz : (z != 8) = true := by simpa using h8
        have HS := Lib.hid hs
        clear hs h8
        go_wp2_with fail
        refine (HStk.out _ grI).mono ?_
        rintro e' w4 ⟨V4, rfl, hR4, hU4, nS4, rfl⟩
        obtain ⟨o1, o2, o3, o4⟩ := hO.out _ V4 hR4 hU4
        have hge2 := o3
        clear hR4 hU4 hO o3
        go_wp2_with (go_at_call 17; refine (HEr.out _ grI).mono ?_; rintro e' w' ⟨rfl, nx, rfl⟩)
        clear x1 x2 y1 y2 o1 o2 o4 hz
        go_roundw
        case rel => exact ⟨k + 1, own2, by omega, by go_num, by rw [HS.out]; exact HT.out.grow grI⟩
        case measure => simp [intOf]; omega
    · have HEr := Lib.hid (fun W (g : Grow wr W) => by have := zas W b own2 _ (HT.out.em.grow g); rw [zap he] at this; exact this)
      have HS : Hid (eachTo e0.run x L E (k + 1) = eachTo e0.run x L E k) := by rw [Hid, hs]; unfold eachOf; rw [if_pos he]
      clear hs hj hP he hIr hq
      go_wp2_with fail
      refine (HStk.out _ grI).mono ?_
      rintro e' w4 ⟨V4, rfl, hR4, hU4, nS4, rfl⟩
      clear hR4 hU4
      go_wp2_with (go_at_call 17; refine (HEr.out _ grI).mono ?_; rintro e' w' ⟨rfl, nx, rfl⟩)
      clear x1 x2 y1 y2
      go_roundw
      case rel => exact ⟨k + 1, own2, by omega, by go_num, by rw [HS.out]; exact HT.out.grow grI⟩
      case measure => simp [intOf]; omega
  · have hke : k = L.length := by omega
    subst hke
    go_wp2_with fail
    go_end0
    exact ⟨rfl, HT.out.post HG0.out⟩
set_option maxRecDepth 100000 in
set_option maxHeartbeats 4000000 in
theorem zy8 (n m who : Int) (a : Option Addr) (c : Nat) (l : List Eff) (ok : (Eff.mk 20 n m who a c l).Ok) (IH : ∀ e, e ∈ l → yae e) : yae (.mk 20 n m who a c l) := by
 intro w b own E R d hQ hd GL x hc ht lim hI hol hlim
 rcases ok with ⟨_, _, _, _, _, hl, _, _, hs⟩
 have hl1 := hl rfl
 match l, hl1, hs, IH, hI with
 | [e0], _, hs, IH, hI =>
   have HR := Lib.hid R
   rw [Eff.row_mk]
   by_cases he : E.err = 0
   · have hrun : (Eff.mk 20 n m who a c [e0]).run x E = (groupN E.now n x.ctl x.src).foldl (eachOf e0.run x) E := by
      rw [Eff.run_mk]; unfold doF
      rw [if_neg (by rw [he]; simp), if_pos rfl]; rfl
     rw [hrun]
     have HEr := Lib.hid (fun W (g : Grow w W) => by have := zas W b own E (R.grow g); rw [he, za4] at this; exact this)
     have HA := Lib.hid (fun W (g : Grow w W) => z4n n m who a c e0 (hs e0 (by simp)) (IH e0 (by simp)) W b own E (R.grow g) d hQ hd (GL.grow g) x hc lim (hI.grow g) hol (fun k h => Nat.lt_of_lt_of_le (hlim k h) g.size) he)
     clear R hQ GL hrun hI hol hs IH he
     generalize (groupN E.now n x.ctl x.src).foldl (eachOf e0.run x) E = E2 at *
     have h1 : [e0].length = 1 := rfl
     rw [h1]
     go_enter Tryz.func30, Tryz.ntmps30
     go_wp2_with (go_at_call 17; refine (HEr.out _ grI).mono ?_; rintro e' w' ⟨rfl, nx, rfl⟩)
     refine (HA.out _ grI).mono ?_
     rintro e' w4 ⟨rfl, hE⟩
     have HE := Lib.hid hE
     clear hE
     go_wp2_with fail
     go_end0
     exact ⟨rfl, EPost.low grI HE.out⟩
   · have HEr := Lib.hid (fun W (g : Grow w W) => by have := zas W b own E (R.grow g); rw [zap he] at this; exact this)
     rw [Eff.run_err _ x he]
     clear R hQ GL he hI hol hs IH
     go_enter Tryz.func30, Tryz.ntmps30
     go_wp2_with (go_at_call 17; refine (HEr.out _ grI).mono ?_; rintro e' w' ⟨rfl, nx, rfl⟩)
     refine bodyPost_ret (results_none rfl _ _ _) rfl ?_
     exact ⟨rfl, HR.out.stay grI⟩
end Go.Proofs.YthfalocligkamaaGreatDoor
