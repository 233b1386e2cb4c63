/- The walk of trigger's Upkeep. -/
import Derived.Test.YtgobdndjemicjaaGreatDoorMTrG
import Derived.Test.YtgobdndjemicjaaGreatDoorMG4
import Derived.Test.YtgobdndjemicjaaGreatDoorMG8b
import Derived.Test.YtgobdndjemicjaaGreatDoorMG11
namespace Go.Proofs.YtgobdndjemicjaaGreatDoor
open Go Go.RowKit Go.Shelf
theorem z3p {m : Nat} {d : List Int} {E : Em} (h : Og m d E) : Right E.state := by
 unfold Em.state
 rcases h with h | h
 · rw [if_pos h]; exact (zdy St0).1 (by decide +kernel)
 · rw [if_neg (by rw [h.err]; simp)]; exact h.right
def zjl (S : St) (id : Int) : LR := if gt (rowAt S.objs id.toNat) 2 = S.num 19 then (usesN (zbp S id.toNat).abs 4).map fun i => [id, i, S.num 19] else []
def zc8 (S : St) (k : Nat) : LR := ((S.list 8).take k).flatMap (zjl S)
theorem zi6 (S : St) (k : Nat) (h : k < (S.list 8).length) : zc8 S (k + 1) = zc8 S k ++ zjl S (gt (S.list 8) k) := by
 unfold zc8
 rw [zev _ _ h, List.flatMap_append]
 simp
theorem zim (S : St) : zc8 S (S.list 8).length = znf S := by unfold zc8; rw [List.take_length]; rfl
theorem zzy (S : St) (k : Nat) : ∀ r, r ∈ zc8 S k → r.length = 3 := by
 intro r h
 obtain ⟨a, _, ha⟩ := List.mem_flatMap.1 h
 unfold zjl at ha
 split at ha
 · obtain ⟨i, _, rfl⟩ := List.mem_map.1 ha; rfl
 · cases ha
theorem zzz (E : Em) : E.upkeep = E.abils (znf E.state) := by
 unfold Em.upkeep Em.state
 by_cases h : E.err = 0
 · rw [if_neg (by rw [h]; simp), if_neg (by rw [h]; simp)]
 · rw [if_pos h, if_pos h]; rfl
set_option maxRecDepth 100000 in
set_option maxHeartbeats 8000000 in
theorem zvj (w : World) (b : Nat) (own : Nat → Prop) (E : Em) (R : Emt w b own E) {m : Nat} {dr : List Int} (h : Og m dr E) (hm : m ≤ 131072) (hdr : dr.length ≤ 1048576) (GL : GlobE w own) :
 Calls Tryz.prog 33 #[.pointer (some ⟨b, 0, none⟩)] w fun r w' => r = .returned (.int .i64 (E.abilsR (znf E.state))) ∧ EPost w b own E.upkeep w' := by
 have hRt := z3p h
 have hMo := h.mo hm hdr
 have h8 : (E.state.list 8).length ≤ 400 := hRt.smallN.list 8 (by omega)
 rw [zzz]
 have HSt := Lib.hid (fun W (g : Grow w W) => zcu W b own E (R.grow g) hMo)
 have HPut := Lib.hid (fun W (g : Grow w W) (s : Sl) (l : LR) (RL : Rows' W s 3 l) (hl : l.length ≤ 1048576) (hs : 0 < l.length → ¬ own s.b) => zse W b own E (R.grow g) h hm hdr (GL.grow g) s l RL hl hs)
 have hown := R.lt
 have HLT := Lib.hid hown
 have HRT := Lib.hid hRt
 clear R GL h hMo hRt hown
 generalize E.state = S at *
 go_enter Tryz.func33, Tryz.ntmps33
 go_wp2_with fail
 refine (HSt.out _ grI).mono ?_
 rintro e' w2 ⟨V, rfl, hR2, hU2, hG2⟩
 clear hU2
 have hN := hR2.objs.len
 have hL := (hR2.list 8 (by decide)).len
 have HR := Lib.hid hR2
 have HG2 := Lib.hid hG2
 clear hR2 hG2 HSt
 have e19 : gt [S.num 18, S.num 19, S.num 20, S.num 21, S.num 22, S.num 23, S.num 24] 1 = S.num 19 := rfl
 go_wp2_with fail
 go_loopw [5, 21] (fun v i wr => ∃ (k : Nat) (s : Sl), k ≤ (S.list 8).length ∧ i = .int .i64 k ∧ v = s.val ∧ Hid (Made (w2.alloc (.cells (stA V S.num) 29)).heap.size wr s 3 (zci (zc8 S k))) ∧ s.n ≤ 2 * k ∧ Grow (w2.alloc (.cells (stA V S.num) 29)) wr) (fun _ i _ => (S.list 8).length - (intOf i).toNat)
 case atStart => exact ⟨0, .nil, by omega, rfl, rfl, Made.nil _ _ _, by simp [Sl.n], grI⟩
 case round =>
  obtain ⟨k, s, hk, rfl, rfl, HM, hsn, hG⟩ := hrel
  obtain ⟨x, rfl⟩ := hG
  by_cases hlt : k < (S.list 8).length
  · obtain ⟨hlb, hlc⟩ := (HR.out.list 8 (by decide)).at k hlt
    obtain ⟨o1, o2, _, _⟩ := HRT.out.zon.ok 8 (by decide) (gt (S.list 8) k) (by rw [zkl _ _ hlt]; exact List.getElem_mem hlt)
    have HST := Lib.hid (zi6 S k hlt)
    generalize hid : gt (S.list 8) k = id at *
    obtain ⟨d, rfl⟩ := Int.eq_ofNat_of_zero_le o1
    have hd : d < S.objs.length := by omega
    have hd' : (d : Int) < S.objs.length := by omega
    obtain ⟨hob, how, hosz, hosub, hocell⟩ := (HR.out.objs).at (by omega) d hd
    have hoc := hocell 2 (by omega)
    have hcd := HRT.out.card hd
    have HK := Lib.hid (fun W (g : Grow w2 W) => zjz S V W (HR.out.grow g) d hd (zl8 (zbp S d)) 0 (fun W => by
     have := zjt W (gt (rowAt S.objs d) 0).toNat (by omega)
     rw [show (((gt (rowAt S.objs d) 0).toNat : Nat) : Int) = gt (rowAt S.objs d) 0 by omega] at this
     rw [zbf]
     exact this.mono fun _ _ ⟨c, h1, h2, h3⟩ => ⟨c, h1, h2, h3⟩))
    have hst1 : zjl S (d : Int) = if gt (rowAt S.objs d) 2 = S.num 19 then (usesN (zbp S d).abs 4).map fun i => [(d : Int), i, S.num 19] else [] := by unfold zjl; rw [Int.toNat_natCast]
    rw [hst1] at HST
    clear hid o1 o2 hocell hosub hosz how hcd hst1
    generalize gt (rowAt S.objs d) 2 = ctl at *
    by_cases hctl : ctl = S.num 19
    · subst hctl
      rw [if_pos rfl] at HST
      have hne : (S.num 19 != S.num 19) = false := by simp
      have hu2 : (usesN (zbp S d).abs 4).length ≤ 2 := Nat.le_trans (zgk _ _) (zgu S d)
      have HUs := Lib.hid (fun (W : World) (c : CdV) (n : Nat) (hc : CardOk W n c (zbp S d)) => zj0 W c (zbp S d) n hc 4 (Nat.le_trans (zgu S d) (by decide)))
      generalize usesN (zbp S d).abs 4 = u at *
      go_wp2_with (first | (go_at_call 37; refine (HK.out _ grI).mono ?_; rintro e' w3 ⟨c, rfl, hc, n1, rfl⟩; (try simp only [zad] at hc); (try simp only [zac] at hc); have HC := Lib.hid hc; clear hc) | (go_at_call 85; refine (HUs.out _ c _ (HC.out.grow grI)).mono ?_; rintro e' w4 ⟨su, rfl, hI, hO, nU, rfl⟩; (try simp only [zad] at hI); (try simp only [zac] at hI); have HI := Lib.hid hI; have HO := Lib.hid hO; have hun := hI.len; clear hI hO))
      have hM4 : Made (w2.alloc (.cells (stA V S.num) 29)).heap.size ((((w2.alloc (.cells (stA V S.num) 29)).plus (x.and n1)).alloc (.cells c.arr 44)).plus nU) s 3 (zci (zc8 S k)) := HM.out.grow grI
      have hg4 : Grow (w2.alloc (.cells (stA V S.num) 29)) ((((w2.alloc (.cells (stA V S.num) 29)).plus (x.and n1)).alloc (.cells c.arr 44)).plus nU) := grI
      have hso : ∀ q, s.owns q → q < ((w2.alloc (.cells (stA V S.num) 29)).plus x).heap.size := fun q hq => (HM.out.own q hq).2
      have hsu : ∀ q, su.owns q → ((w2.alloc (.cells (stA V S.num) 29)).plus x).heap.size ≤ q := fun q hq => by
       have := HO.out q hq
       simp only [zab, zaa] at this ⊢
       have e1 : ((w2.alloc (.cells (stA V S.num) 29)).plus (x.and n1)).heap.size = (((w2.alloc (.cells (stA V S.num) 29)).plus x).plus n1).heap.size := by rw [zac]
       simp only [zab, zaa] at e1
       omega
      have hpx : w2.heap.size + 1 ≤ ((w2.alloc (.cells (stA V S.num) 29)).plus x).heap.size := by simp only [zab, zaa]; omega
      have HM4 := Lib.hid hM4
      have HG4 := Lib.hid hg4
      have HSO := Lib.hid hso
      have HSU := Lib.hid hsu
      clear hM4 hg4 hso hsu HM HC HO HK HUs hoc hlc hlb hob
      generalize hpxe : ((w2.alloc (.cells (stA V S.num) 29)).plus x).heap.size = px at *
      clear hpxe
      generalize (((w2.alloc (.cells (stA V S.num) 29)).plus (x.and n1)).alloc (.cells c.arr 44)).plus nU = W4 at *
      go_loopw [5, 42] (fun v i wr => ∃ (j : Nat) (s : Sl), j ≤ u.length ∧ i = .int .i64 j ∧ v = s.val ∧ Hid (Made (w2.alloc (.cells (stA V S.num) 29)).heap.size wr s 3 (zci (zc8 S k ++ (u.take j).map fun i => [(d : Int), i, S.num 19])) ∧ (∀ q, s.owns q → q < px ∨ W4.heap.size ≤ q) ∧ Kept (fun q => q < px ∨ W4.heap.size ≤ q) W4 wr) ∧ s.n ≤ 2 * k + j ∧ Grow (w2.alloc (.cells (stA V S.num) 29)) wr) (fun _ i _ => u.length - (intOf i).toNat)
      case atStart => exact ⟨0, s, by omega, rfl, rfl, ⟨by rw [List.take_zero, List.map_nil, List.append_nil]; exact HM4.out, fun q hq => .inl (HSO.out q hq), Kept.refl _ _⟩, by omega, HG4.out⟩
      case round =>
       obtain ⟨j, s, hj, rfl, rfl, HM2, hsn2, hG⟩ := hrel
       obtain ⟨y, rfl⟩ := hG
       clear HM4 hsn HSO
       by_cases hjt : j < u.length
       · have HIj := HI.out.at j hjt
         have hsub : px ≤ su.b := HSU.out su.b (Sl.owns_b (by omega))
         have hks := HM2.out.2.2.size
         have f2 : ((w2.alloc (.cells (stA V S.num) 29)).plus y).cell? ⟨su.b, su.o + j, none⟩ = some (I (gt u j)) := by
          rw [HM2.out.2.2.cell _ _ HIj.1 (by have := HIj.1; omega)]; exact HIj.2
         have f2' : zcp (w2.alloc (.cells (stA V S.num) 29)) y su.b (su.o + j) = some (I (gt u j)) := f2
         have r3 : w2.heap.size + 1 ≤ su.b := by omega
         have r6 : su.b < w2.heap.size + 1 + y.objs.size := by have := HIj.1; simp only [zab, zaa] at hks; omega
         have HTK := Lib.hid (zev u j hjt)
         have HKS := Lib.hid hks
         generalize gt u j = ui at *
         clear f2 HIj hks
         go_wp2_with (at_builtin; refine zb1 rfl _ _ 55 rfl 99 Tryz.t99 (.agg (cellsOf [0, 0, 0])) 3 24 Tryz.underlying55 (by kernel_rfl) (by kernel_rfl) (by kernel_rfl) (by kernel_rfl) (by omega) rfl (w2.alloc (.cells (stA V S.num) 29)) s (.mk _ 0 1 1) (zci (zc8 S k ++ (u.take j).map fun i => [(d : Int), i, S.num 19])) (zci [[(d : Int), ui, S.num 19]]) rfl rfl (HM2.out.1.grow grI) grI (zdc _ _ 3 [(d : Int), ui, S.num 19] rfl (by go_simp)) (znz _) (znz _) (by simp only [Sl.n] at hsn2 ⊢; omega) ?_; intro s2 y3 c1 c2 c3 c4; have C := Lib.hid (And.intro c1 (And.intro c2 (And.intro c3 c4))); clear c1 c2 c3 c4)
         go_roundw
         case rel =>
          have hb3 : s2.n = s.n + 1 := C.out.2.2.1
          refine ⟨j + 1, s2, by omega, by go_num, rfl, ⟨by rw [HTK.out, List.map_append, ← List.append_assoc, zdb]; exact C.out.1.grow grI, fun q hq => (C.out.2.2.2 q hq).elim (HM2.out.2.1 q) (fun h => .inr (by have := HKS.out; simp only [zaa, zab] at h this ⊢; omega)), ?_⟩, by omega, grI⟩
          exact ((HM2.out.2.2.trans (o2 := fun _ => False) (Grow.kept _ (show Grow ((w2.alloc (.cells (stA V S.num) 29)).plus y) _ from grI)) (fun _ _ h => h.elim)).trans (o2 := s.owns) C.out.2.1 (fun q _ hq => HM2.out.2.1 q hq))
         case measure => simp [intOf]; omega
       · have hju : j = u.length := by omega
         subst hju
         have HTA := Lib.hid (List.take_length (l := u))
         go_wp2_with fail
         go_roundw
         case rel => exact ⟨k + 1, s, by omega, by go_num, rfl, by rw [HST.out, ← HTA.out]; exact HM2.out.1.grow grI, by omega, grI⟩
         case measure => simp [intOf]; omega
    · rw [if_neg hctl] at HST
      have hne : (ctl != S.num 19) = true := by simpa using hctl
      go_wp2_with (go_at_call 37; refine (HK.out _ grI).mono ?_; rintro e' w3 ⟨c, rfl, hc, n1, rfl⟩; clear hc)
      go_roundw
      case rel => exact ⟨k + 1, s, by omega, by go_num, rfl, by rw [HST.out, List.append_nil]; exact HM.out.grow grI, by omega, grI⟩
      case measure => simp [intOf]; omega
  · have hke : k = (S.list 8).length := by omega
    subst hke
    have hm' := HM.out
    rw [zim] at hm'
    have hrw := hm'.cells.rows3 (fun r hr => zzy S (S.list 8).length r (by rw [zim]; exact hr))
    have hrl := hrw.len
    have HRW := Lib.hid hrw
    have hsb : 0 < (znf S).length → ¬ own s.b := fun hp ho => by
     have h1 := (hm'.own s.b (Sl.owns_b (by omega))).1
     have h2 := HLT.out _ ho
     have h3 := HG2.out.size
     rw [zaa] at h1
     omega
    have HP2 := Lib.hid (fun W (g : Grow (w2.alloc (.cells (stA V S.num) 29)) W) (RL : Rows' W s 3 (znf S)) => HPut.out W (HG2.out.trans (Grow.trans grI g)) s (znf S) RL (by omega) hsb)
    have HG3 := Lib.hid (show Grow w (w2.alloc (.cells (stA V S.num) 29)) from HG2.out.trans grI)
    clear hm' hrw HM HPut hsb HRT HR
    go_wp2_with fail
    refine (HP2.out _ grI (HRW.out.grow grI)).mono ?_
    rintro e' w4 ⟨rfl, hE⟩
    have HE := Lib.hid hE
    clear hE
    go_wp2_with fail
    go_ret
    exact ⟨rfl, (EPost.low (Grow.trans HG3.out grI) HE.out).more grI⟩
end Go.Proofs.YtgobdndjemicjaaGreatDoor
namespace Go.Proofs.YtgobdndjemicjaaGreatDoor
open Go Go.RowKit Go.Shelf
theorem CardIs.absLen {w : World} {n : Nat} {c : CdV} {d : CardF} (h : CardIs w n c d) : c.abs.n = d.abs.length := by
 obtain ⟨l, h1, _, h3⟩ := h.abs
 have := h1.len
 rw [List.length_map] at this
 rw [this]
 exact h3.get.1
theorem zwe {n : Nat} (h : n < 120) : (cardF n).abs.length = (cardN n).abs.length := by
 have := zj2 n h
 unfold zrd at this
 simp only [Bool.and_eq_true, beq_iff_eq, decide_eq_true_eq] at this
 exact this.1.2
set_option maxRecDepth 100000 in
theorem z1j (w : World) (n : Int) (hn : n < 0 ∨ 120 ≤ n) : Calls Tryz.prog 39 #[.int .i64 n] w fun e w' => e = .returned (.tuple #[.agg zeroCd.arr, .bool false]) ∧ Grow w w' := by
 unfold zeroCd
 by_cases h0 : n < 0
 · clear hn
   go_enter Tryz.func39, Tryz.ntmps39
   go_wp2_with fail
   refine bodyPost_ret (zai rfl _ _ _ rfl ?_) rfl ?_
   · go_simp
   · exact ⟨by first | rfl | (go_simp; done) | (go_simp; rfl), grI⟩
 · have h1 : (119 : Int) < n := by omega
   clear hn
   go_enter Tryz.func39, Tryz.ntmps39
   go_wp2_with fail
   refine bodyPost_ret (zai rfl _ _ _ rfl ?_) rfl ?_
   · go_simp
   · exact ⟨by first | rfl | (go_simp; done) | (go_simp; rfl), grI⟩
set_option maxRecDepth 100000 in
set_option maxHeartbeats 4000000 in
theorem zkm (T8 : zem) (S : St) (V : SV) (w : World) (R : RepSt w V S) (id n : Int) :
 Calls Tryz.prog 38 #[.agg (stA V S.num), .int .i64 id, .int .i64 n] w fun e w' => e = .returned (.bool (za9 S id n)) ∧ Grow w w' := by
 have hN := R.objs.len
 have HT := Lib.hid T8
 clear T8
 by_cases hi : 0 ≤ id ∧ id < S.objs.length
 · obtain ⟨a, rfl⟩ := Int.eq_ofNat_of_zero_le hi.1
   have ha : a < S.objs.length := by omega
   have ha1 : (a : Int) < S.objs.length := hi.2
   have hoc := R.objs.cell a 0 ha (by omega)
   have hob := (zaz hoc).1
   rw [Nat.add_zero] at hoc
   by_cases hc : 0 ≤ gt (rowAt S.objs a) 0 ∧ gt (rowAt S.objs a) 0 < 120
   · obtain ⟨k, hk⟩ := Int.eq_ofNat_of_zero_le hc.1
     have hk120 : k < 120 := by omega
     have e : za9 S a n = decide (0 ≤ n ∧ n < (cardF k).abs.length) := by
      unfold za9
      rw [Int.toNat_natCast, decide_eq_true hi, decide_eq_true hc, hk, Int.toNat_natCast, zwe hk120]; rfl
     rw [e]
     rw [hk] at hoc
     change w.cell? _ = some (Value.int .i64 (k : Int)) at hoc
     have HK := Lib.hid (fun W => HT.out W k hk120)
     generalize cardF k = d at *
     clear R hi hc hk e
     by_cases h0 : 0 ≤ n
     · by_cases h1 : n < d.abs.length
       · rw [decide_eq_true ⟨h0, h1⟩]
         go_enter Tryz.func38, Tryz.ntmps38
         go_wp2_with (go_at_call 39; refine (HK.out _).mono ?_; rintro e' w' ⟨c, rfl, hC, nx, rfl⟩; have hl := hC.absLen; clear hC)
         go_ret
         exact ⟨rfl, grI⟩
       · rw [decide_eq_false (fun h => h1 h.2)]
         have h1' : (n < (d.abs.length : Int)) = False := by simpa using h1
         clear h1
         go_enter Tryz.func38, Tryz.ntmps38
         go_wp2_with (go_at_call 39; refine (HK.out _).mono ?_; rintro e' w' ⟨c, rfl, hC, nx, rfl⟩; have hl := hC.absLen; clear hC)
         go_ret
         exact ⟨rfl, grI⟩
     · rw [decide_eq_false (fun h => h0 h.1)]
       have h0' : (0 ≤ n) = False := by simpa using h0
       clear h0
       go_enter Tryz.func38, Tryz.ntmps38
       go_wp2_with (go_at_call 39; refine (HK.out _).mono ?_; rintro e' w' ⟨c, rfl, hC, nx, rfl⟩; clear hC)
       go_ret
       exact ⟨rfl, grI⟩
   · have e : za9 S a n = false := by
      unfold za9
      rw [Int.toNat_natCast, decide_eq_true hi, decide_eq_false hc]; rfl
     rw [e]
     change w.cell? _ = some (Value.int .i64 (gt (rowAt S.objs a) 0)) at hoc
     have HK := Lib.hid (fun W => z1j W (gt (rowAt S.objs a) 0) (by omega))
     generalize gt (rowAt S.objs a) 0 = x at *
     unfold zeroCd at HK
     have hz : Sl.nil.n = 0 := rfl
     clear R hi hc e HT
     by_cases h0 : 0 ≤ n
     · have h1 : (n < 0) = False := by simpa using h0
       go_enter Tryz.func38, Tryz.ntmps38
       go_wp2_with (go_at_call 39; refine (HK.out _).mono ?_; rintro e' w' ⟨rfl, nx, rfl⟩)
       go_ret
       exact ⟨rfl, grI⟩
     · have h0' : (0 ≤ n) = False := by simpa using h0
       clear h0
       go_enter Tryz.func38, Tryz.ntmps38
       go_wp2_with (go_at_call 39; refine (HK.out _).mono ?_; rintro e' w' ⟨rfl, nx, rfl⟩)
       go_ret
       exact ⟨rfl, grI⟩
 · have e : za9 S id n = false := by unfold za9; rw [decide_eq_false hi]; rfl
   rw [e]
   clear R e HT
   by_cases h0 : id < 0
   · clear hi
     go_enter Tryz.func38, Tryz.ntmps38
     go_wp2_with fail
     go_ret
     exact ⟨rfl, grI⟩
   · have h1 : (S.objs.length : Int) ≤ id := by omega
     clear hi
     go_enter Tryz.func38, Tryz.ntmps38
     go_wp2_with fail
     go_ret
     exact ⟨rfl, grI⟩
end Go.Proofs.YtgobdndjemicjaaGreatDoor
namespace Go.Proofs.YtgobdndjemicjaaGreatDoor
open Go Go.RowKit Go.Shelf
theorem zpt (E : Em) (e : List Int) : (E.do1 e).evs.length ≤ E.evs.length + 1 := by
 unfold Em.do1
 split
 · omega
 · split
   · exact Nat.le_succ _
   · split
     · simp
     · exact Nat.le_succ _
theorem zel (E : Em) (a f v : Int) : (E.setObj a f v).evs.length ≤ E.evs.length + 1 := by
 unfold Em.setObj
 split
 · omega
 · split
   · exact zpt _ _
   · unfold Em.set
     split
     · unfold Em.fail; split <;> exact Nat.le_succ _
     · exact zpt _ _
theorem zmp (E : Em) (c o k : Int) : (E.make c o k).evs.length ≤ E.evs.length + 1 := by
 unfold Em.make
 split
 · omega
 · exact zpt _ _
theorem zrj (E : Em) (a f u v : Int) : (E.do1 [2, a, f, u, v, 0]).now.objs.length = E.now.objs.length := by
 unfold Em.do1
 split
 · rfl
 · split
   · rfl
   · rename_i S hd
     obtain ⟨_, rfl⟩ := zgr hd
     split <;> exact zb6 _ _ _ _
theorem zd3 (E : Em) (a f v : Int) : (E.setObj a f v).now.objs.length = E.now.objs.length := by
 unfold Em.setObj
 split
 · rfl
 · split
   · exact zrj _ _ _ _ _
   · unfold Em.set
     split
     · unfold Em.fail; split <;> rfl
     · exact zrj _ _ _ _ _
theorem zqg {E : Em} (he : E.err = 0) (hn : 0 < E.now.objs.length) (c o k : Int) : ∃ x : Nat, E.made c o k = x ∧ x < (E.make c o k).now.objs.length := by
 by_cases h : (E.make c o k).err = 0
 · obtain ⟨_, h1, h2⟩ := zmq he h
   exact ⟨E.now.objs.length, h2, by rw [h1]; simp⟩
 · refine ⟨0, ?_, ?_⟩
   · have e1 : E.make c o k = E.do1 [0, c, o, k, 0, 0] := by unfold Em.make; rw [if_neg (by rw [he]; simp)]
     rw [e1] at h
     unfold Em.made
     rw [if_neg (by rw [he]; simp), if_pos h]; rfl
   · unfold Em.make
     rw [if_neg (by rw [he]; simp)]
     unfold Em.do1
     rw [if_neg (by rw [he]; simp)]
     split
     · exact hn
     · rename_i S hd
       obtain ⟨_, rfl⟩ := zkc hd
       split <;> (simp)
theorem z09 {m : Nat} {d : List Int} {E : Em} (h : Rg m d E) (hn : E.evs.length + 17 ≤ 65536) (id n p : Int) (he : (E.abil id n p).err = 0) : (E.abil id n p).evs.length ≤ E.evs.length + 17 := by
 unfold Em.abil at he ⊢
 rw [if_neg (by rw [h.err]; simp)] at he ⊢
 split at he
 · cases he
 rename_i hh
 have hh : za9 E.now id n = true := by simpa using hh
 rw [if_neg (by rw [hh]; simp)]
 split at he
 · cases he
 rename_i hp
 rw [if_neg hp]
 obtain ⟨_, _, i0, i1⟩ := zdx hh
 generalize gt (rowAt E.now.objs id.toNat) 0 = c at *
 obtain ⟨O1, O2, O3⟩ := h.mids hh c p
 obtain ⟨x, hx, hl⟩ := zqg h.err (by omega) c p 2
 have v1 := zmp E c p 2
 rw [hx] at he O2 O3 ⊢
 have v2 := zel (E.make c p 2) x 14 n
 have v3 := zel ((E.make c p 2).setObj x 14 n) x 15 (wrap64 (id + 1))
 have l2 := zd3 (E.make c p 2) x 14 n
 have l3 := zd3 ((E.make c p 2).setObj x 14 n) x 15 (wrap64 (id + 1))
 generalize ((E.make c p 2).setObj x 14 n).setObj x 15 (wrap64 (id + 1)) = E3 at *
 by_cases e3 : E3.err = 0
 · have R3 := O3.err e3
   obtain ⟨z, cc, dd, hz, hz11, hcl, hca, hd, hd11, P⟩ := zh7 R3.err R3.right R3.wid x (by omega) 9 (by decide) (by omega)
   have := P.evs
   omega
 · rw [zgd e3] at he
   exact absurd he e3
theorem zwb {m : Nat} {d : List Int} {E : Em} (h : Rg m d E) (c p n v : Int) (x : Nat) (hx : E.made c p 2 = x) (e3 : (((E.make c p 2).setObj x 14 n).setObj x 15 v).err = 0) :
 ¬ zd9 (rowAt (((E.make c p 2).setObj x 14 n).setObj x 15 v).now.objs x) 9 = gt (rowAt (((E.make c p 2).setObj x 14 n).setObj x 15 v).now.objs x) 3 := by
 have e2 : ((E.make c p 2).setObj x 14 n).err = 0 := Decidable.byContradiction fun e => by rw [zcv e] at e3; exact e e3
 have e1 : (E.make c p 2).err = 0 := Decidable.byContradiction fun e => by rw [zcv e] at e2; exact e e2
 obtain ⟨hl, hnow, hmade⟩ := zmq h.err e1
 have hxl : x = E.now.objs.length := by rw [hmade] at hx; omega
 have hlen1 : (E.make c p 2).now.objs.length = E.now.objs.length + 1 := by rw [hnow]; simp
 have hrow1 : rowAt (E.make c p 2).now.objs x = [c, p, p, 10, 0, 0, 0, 0, 0, 0, 0, 0, 0, 2, 0, 0, 0, 3] := by
  rw [hxl, hnow]; show rowAt (E.now.objs ++ [_]) _ = _; rw [zeu, if_neg (by omega), if_pos rfl]
 have n2 := zgh e1 (a := x) (f := 14) (v := n) e2
 have n3 := zgh e2 (a := x) (f := 15) (v := v) e3
 have e14 : ((14 : Nat) : Int) = 14 := rfl
 have e15 : ((15 : Nat) : Int) = 15 := rfl
 rw [e14] at n2
 rw [e15] at n3
 have hrow3 : rowAt (((E.make c p 2).setObj x 14 n).setObj x 15 v).now.objs x = [c, p, p, 10, 0, 0, 0, 0, 0, 0, 0, 0, 0, 2, n, v, 0, 3] := by
  rw [n3, zck _ _ _ _ _ (by rw [n2, zb6]; omega), if_pos rfl, n2, zck _ _ _ _ _ (by omega), if_pos rfl, hrow1]; rfl
 have h9 : zd9 [c, p, p, 10, 0, 0, 0, 0, 0, 0, 0, 0, 0, 2, n, v, 0, 3] 9 = 9 := by
  have : zg5 9 (gt [c, p, p, 10, 0, 0, 0, 0, 0, 0, 0, 0, 0, 2, n, v, 0, 3] 1) = -1 := by unfold zg5; rw [if_neg (by omega)]
  unfold zd9
  simp only [this]
  simp [gt]
 rw [hrow3, h9]
 show ¬ (9 : Int) = 10
 omega
set_option maxRecDepth 100000 in
set_option maxHeartbeats 8000000 in
theorem ztm (T8 : zem) (w : World) (b : Nat) (own : Nat → Prop) (E : Em) (R : Gmt w b own E) {m : Nat} {d : List Int} (h : Rg m d E) (hm : m ≤ 65536) (hn : E.evs.length + 17 ≤ 65536) (h4 : E.now.objs.length < 400) (a : Nat) (n p : Int) (ha : a < E.now.objs.length) (hh : za9 E.now a n = true) (hp : p = 0 ∨ p = 1) :
 Calls Tryz.prog 32 #[.pointer (some ⟨b, 0, none⟩), .int .i64 (a : Int), .int .i64 n, .int .i64 p] w fun r w' => r = .returned (.int .i64 (E.abilR a n p)) ∧ DPost w b own (E.abil a n p) w' := by
 have hsm : Small E.now := h.right.smallN.small (by omega)
 have HHas := Lib.hid (fun (V : SV) W (r : RepSt W V E.now) => by have := zkm T8 E.now V W r a n; rw [hh] at this; exact this)
 have e1 : E.abil a n p = (((E.make (gt (rowAt E.now.objs a) 0) p 2).setObj (E.made (gt (rowAt E.now.objs a) 0) p 2) 14 n).setObj (E.made (gt (rowAt E.now.objs a) 0) p 2) 15 (wrap64 ((a : Int) + 1))).put (E.made (gt (rowAt E.now.objs a) 0) p 2) 9 := by
  unfold Em.abil
  rw [if_neg (by rw [h.err]; simp), hh, if_neg (by simp), if_neg (fun e => e hp), Int.toNat_natCast]
 have e2 : E.abilR a n p = if (E.abil a n p).err ≠ 0 then 0 else E.made (gt (rowAt E.now.objs a) 0) p 2 := by unfold Em.abilR; rw [Int.toNat_natCast]
 obtain ⟨n0, n1, _, _⟩ := zdx hh
 obtain ⟨O1, O2, O3⟩ := h.mids hh (gt (rowAt E.now.objs a) 0) p
 obtain ⟨x, hx, hl⟩ := zqg h.err (by omega) (gt (rowAt E.now.objs a) 0) p 2
 have HMk := Lib.hid (fun W (g : Grow w W) => by have := ztn W b own E (R.grow g) h.err hsm (by omega) h4 (gt (rowAt E.now.objs a) 0) p 2; rw [hx] at this; exact this)
 rw [e2, e1, hx]
 rw [hx] at O2 O3
 have v1 := zmp E (gt (rowAt E.now.objs a) 0) p 2
 have v2 := zel (E.make (gt (rowAt E.now.objs a) 0) p 2) x 14 n
 have v3 := zel ((E.make (gt (rowAt E.now.objs a) 0) p 2).setObj x 14 n) x 15 (wrap64 ((a : Int) + 1))
 have l2 := zd3 (E.make (gt (rowAt E.now.objs a) 0) p 2) x 14 n
 have l3 := zd3 ((E.make (gt (rowAt E.now.objs a) 0) p 2).setObj x 14 n) x 15 (wrap64 ((a : Int) + 1))
 have hn9 : E.now.objs.length ≤ 400 := h.right.many
 have hwr : wrap64 ((a : Int) + 1) = (a : Int) + 1 := by unfold wrap64; omega
 obtain ⟨V, sd, se, sp, hr, ho⟩ := id R
 have hc0 := hr.host.rep.objs.cell a 0 ha (by omega)
 rw [Nat.add_zero] at hc0
 have hN := hr.host.rep.objs.len
 have hob := (zaz hc0).1
 have hc40 := hr.errCell
 rw [h.err] at hc40
 have hRS := Lib.hid hr.host.rep
 have hH := hr.host
 have hcell := zae (hH).free (hH).blk; have hfz := zag (hH).free; have hset := zah (hH).free (hH).blk; have hblk := (hH).blk; have hfree := (hH).free; have hlt := (hH).lt; have hne1 : ¬ b = (w).heap.size := (by omega); have hne2 : ¬ (w).heap.size = b := (by omega)
 have ha1 : (a : Int) < E.now.objs.length := by omega
 change w.cell? _ = some (Value.int .i64 (gt (rowAt E.now.objs a) 0)) at hc0
 generalize gt (rowAt E.now.objs a) 0 = c at *
 have k0 : EmOk E 70000 := ⟨h.right.smallN.mono (by omega), h.evs, by have := h.pend; omega⟩
 have k1 := k0.make c p 2
 have k2 := k1.setObj x 14 n
 have k3 := k2.setObj x 15 (wrap64 ((a : Int) + 1))
 have HS1 := Lib.hid (fun W own' (R : Gmt W b own' (E.make c p 2)) => zme W b own' _ R (k1.small.small (by omega)) (fun _ => by omega) x 14 n hl (by omega) (by omega) (by omega))
 have HS2 := Lib.hid (fun W own' (R : Gmt W b own' ((E.make c p 2).setObj x 14 n)) => zme W b own' _ R (k2.small.small (by omega)) (fun _ => by omega) x 15 (wrap64 ((a : Int) + 1)) (by omega) (by omega) (by omega) (by omega))
 have hPut : ∀ W own', Gmt W b own' (((E.make c p 2).setObj x 14 n).setObj x 15 (wrap64 ((a : Int) + 1))) → Calls Tryz.prog 84 #[.pointer (some ⟨b, 0, none⟩), .int .i64 (x : Int), .int .i64 9] W fun r w' => r = .returned (.tuple #[]) ∧ DPost W b own' ((((E.make c p 2).setObj x 14 n).setObj x 15 (wrap64 ((a : Int) + 1))).put x 9) w' := fun W own' R => by
  by_cases e3 : (((E.make c p 2).setObj x 14 n).setObj x 15 (wrap64 ((a : Int) + 1))).err = 0
  · have R3 := O3.err e3
    exact zto T8 W b own' _ R e3 R3.right R3.wid x (by omega) 9 (by decide) (by omega) (by have := R3.pend; omega) (zwb h c p n (wrap64 ((a : Int) + 1)) x hx e3)
  · rw [zgd e3]; exact z19 W b own' _ R e3 x 9
 have HPut := Lib.hid hPut
 have HWR := Lib.hid hwr
 have ha40 : (a : Int) < 400 := by omega
 have ha00 : (0 : Int) ≤ (a : Int) := by omega
 have HR0 := Lib.hid R
 clear hPut hwr v1 v2 v3 l2 l3 k0 k1 k2 k3 O1 O2 O3 hl hx e1 e2 h h4 hh n0 n1 hsm hr ho hH hset hn hn9 R ha
 generalize ((E.make c p 2).setObj x 14 n).setObj x 15 (wrap64 ((a : Int) + 1)) = E3 at *
 generalize (E.make c p 2).setObj x 14 n = E2 at *
 generalize E.make c p 2 = E1 at *
 generalize hres : (if (E3.put x 9).err ≠ 0 then (0 : Int) else x) = res
 have HRES := Lib.hid hres
 clear hres
 have hb0 : p = 0 ∨ p = 1 := hp
 clear hp
 rcases hb0 with rfl | rfl
 all_goals
  go_enter Tryz.func32, Tryz.ntmps32
  go_wp2_with (go_at_call 38; refine (HHas.out _ _ (hRS.out.grow grI)).mono ?_; rintro e' w' ⟨rfl, nH, rfl⟩)
  refine (HMk.out _ grI).mono ?_
  rintro e' w1 ⟨rfl, hE⟩
  obtain ⟨own1, T1⟩ := (TurnG.first HR0.out).step grI hE
  have HT1 := Lib.hid T1
  clear hE T1 HMk HHas hc40 hc0 hRS hblk hfree hcell
  go_wp2_with fail
  refine (HS1.out _ _ (HT1.out.em.grow grI)).mono ?_
  rintro e' w2 ⟨rfl, hE⟩
  obtain ⟨own2, T2⟩ := HT1.out.step grI hE
  have HT2 := Lib.hid T2
  rw [HWR.out] at HS2
  clear hE T2 HS1 HT1
  go_wp2_with fail
  refine (HS2.out _ _ (HT2.out.em.grow grI)).mono ?_
  rintro e' w3 ⟨rfl, hE⟩
  obtain ⟨own3, T3⟩ := HT2.out.step grI hE
  have HT3 := Lib.hid T3
  clear hE T3 HS2 HT2
  go_wp2_with fail
  refine (HPut.out _ _ (HT3.out.em.grow grI)).mono ?_
  rintro e' w4 ⟨rfl, hE⟩
  obtain ⟨own4, T4⟩ := HT3.out.step grI hE
  have HT4 := Lib.hid T4
  obtain ⟨V4, sd4, se4, sp4, hr4, ho4⟩ := T4.em
  have hc40 := hr4.errCell
  have hlt4 := hr4.host.lt
  clear hE T4 HPut HT3 hr4 ho4
  by_cases h4 : (E3.put x 9).err = 0
  · obtain rfl : (x : Int) = res := by rw [← HRES.out, if_neg (by rw [h4]; simp)]
    rw [h4] at hc40
    clear HRES h4
    go_wp2_with fail
    go_ret
    exact ⟨rfl, (HT4.out.post (Grow.refl _)).more grI⟩
  · obtain rfl : (0 : Int) = res := by rw [← HRES.out, if_pos h4]
    have hb : ((E3.put x 9).err != 0) = true := by simpa using h4
    clear HRES h4
    generalize (E3.put x 9).err = q at *
    go_wp2_with fail
    go_ret
    exact ⟨rfl, (HT4.out.post (Grow.refl _)).more grI⟩
theorem zw9 (w : World) (b : Nat) (own : Nat → Prop) (E : Em) (R : Gmt w b own E) (he : E.err ≠ 0) (id n p : Int) :
 Calls Tryz.prog 32 #[.pointer (some ⟨b, 0, none⟩), .int .i64 id, .int .i64 n, .int .i64 p] w fun r w' => r = .returned (.int .i64 0) ∧ Grow w w' := by
 obtain ⟨V, sd, se, sp, hr, ho⟩ := R
 have hc40 := hr.errCell
 have hlt := hr.host.lt
 have hb : (E.err != 0) = true := by simpa using he
 clear hr ho
 generalize E.err = x at *
 go_enter Tryz.func32, Tryz.ntmps32
 go_wp2_with fail
 go_ret
 exact ⟨rfl, grI⟩
set_option maxRecDepth 100000 in
set_option maxHeartbeats 4000000 in
theorem z16 (T8 : zem) (w : World) (b : Nat) (own : Nat → Prop) (E : Em) (R : Gmt w b own E) (he : E.err = 0) (id n p : Int) (hh : za9 E.now id n = false) :
 Calls Tryz.prog 32 #[.pointer (some ⟨b, 0, none⟩), .int .i64 id, .int .i64 n, .int .i64 p] w fun r w' => r = .returned (.int .i64 0) ∧ DPost w b own { E with err := 4 } w' := by
 have HHas := Lib.hid (fun (V : SV) W (r : RepSt W V E.now) => by have := zkm T8 E.now V W r id n; rw [hh] at this; exact this)
 obtain ⟨V, sd, se, sp, hr, ho⟩ := R
 have hc40 := hr.errCell
 rw [he] at hc40
 have hRS := Lib.hid hr.host.rep
 have hH := hr.host
 have hcell := zae (hH).free (hH).blk; have hfz := zag (hH).free; have hset := zah (hH).free (hH).blk; have hblk := (hH).blk; have hfree := (hH).free; have hlt := (hH).lt; have hne1 : ¬ b = (w).heap.size := (by omega); have hne2 : ¬ (w).heap.size = b := (by omega)
 have HR := Lib.hid hr
 have HO := Lib.hid ho
 have hs := hset 40 (I 4)
 rw [zmj] at hs
 clear hr ho hH hset hcell he hh
 go_enter Tryz.func32, Tryz.ntmps32
 go_wp2_with (go_at_call 38; refine (HHas.out _ _ (hRS.out.grow grI)).mono ?_; rintro e' w' ⟨rfl, nH, rfl⟩)
 go_ret
 exact ⟨rfl, Gmt.setErr HR.out HO.out 4 grI⟩
set_option maxRecDepth 100000 in
set_option maxHeartbeats 4000000 in
theorem zxa (T8 : zem) (w : World) (b : Nat) (own : Nat → Prop) (E : Em) (R : Gmt w b own E) (he : E.err = 0) (id n p : Int) (hh : za9 E.now id n = true) (hp : ¬ (p = 0 ∨ p = 1)) :
 Calls Tryz.prog 32 #[.pointer (some ⟨b, 0, none⟩), .int .i64 id, .int .i64 n, .int .i64 p] w fun r w' => r = .returned (.int .i64 0) ∧ DPost w b own { E with err := 1 } w' := by
 have HHas := Lib.hid (fun (V : SV) W (r : RepSt W V E.now) => by have := zkm T8 E.now V W r id n; rw [hh] at this; exact this)
 obtain ⟨V, sd, se, sp, hr, ho⟩ := R
 have hc40 := hr.errCell
 rw [he] at hc40
 have hRS := Lib.hid hr.host.rep
 have hH := hr.host
 have hcell := zae (hH).free (hH).blk; have hfz := zag (hH).free; have hset := zah (hH).free (hH).blk; have hblk := (hH).blk; have hfree := (hH).free; have hlt := (hH).lt; have hne1 : ¬ b = (w).heap.size := (by omega); have hne2 : ¬ (w).heap.size = b := (by omega)
 have HR := Lib.hid hr
 have HO := Lib.hid ho
 have hs := hset 40 (I 1)
 rw [zmj] at hs
 have b0 : (p != 0) = true := by simp; omega
 have b1 : (p != 1) = true := by simp; omega
 clear hr ho hH hset hcell he hh hp
 go_enter Tryz.func32, Tryz.ntmps32
 go_wp2_with (go_at_call 38; refine (HHas.out _ _ (hRS.out.grow grI)).mono ?_; rintro e' w' ⟨rfl, nH, rfl⟩)
 go_ret
 exact ⟨rfl, Gmt.setErr HR.out HO.out 1 grI⟩
theorem zn4 (T8 : zem) (w : World) (b : Nat) (own : Nat → Prop) (E : Em) (R : Gmt w b own E) {m : Nat} {d : List Int} (h : Og m d E) (hm : m ≤ 65536) (hn : E.err = 0 → E.evs.length + 17 ≤ 65536) (h4 : E.err = 0 → E.now.objs.length < 400) (id n p : Int) :
 Calls Tryz.prog 32 #[.pointer (some ⟨b, 0, none⟩), .int .i64 id, .int .i64 n, .int .i64 p] w fun r w' => r = .returned (.int .i64 (E.abilR id n p)) ∧ DPost w b own (E.abil id n p) w' := by
 by_cases he : E.err = 0
 · have hR := h.err he
   by_cases hh : za9 E.now id n = true
   · obtain ⟨_, _, i0, i1⟩ := zdx hh
     obtain ⟨a, rfl⟩ := Int.eq_ofNat_of_zero_le i0
     by_cases hp : p = 0 ∨ p = 1
     · exact ztm T8 w b own E R hR hm (hn he) (h4 he) a n p (by omega) hh hp
     · have e : E.abil a n p = { E with err := 1 } := by
        unfold Em.abil
        rw [if_neg (by rw [he]; simp), hh, if_neg (by simp), if_pos hp]
       have e2 : E.abilR a n p = 0 := by unfold Em.abilR; rw [e, if_pos (by show (1 : Int) ≠ 0; decide)]
       rw [e, e2]
       exact zxa T8 w b own E R he a n p hh hp
   · have hh : za9 E.now id n = false := by simpa using hh
     have e : E.abil id n p = { E with err := 4 } := by
      unfold Em.abil
      rw [if_neg (by rw [he]; simp), if_pos hh]
     have e2 : E.abilR id n p = 0 := by unfold Em.abilR; rw [e, if_pos (by show (4 : Int) ≠ 0; decide)]
     rw [e, e2]
     exact z16 T8 w b own E R he id n p hh
 · have e2 : E.abilR id n p = 0 := by unfold Em.abilR; rw [zfd he, if_pos he]
   rw [zfd he, e2]
   exact (zw9 w b own E R he id n p).mono fun _ _ ⟨h1, h2⟩ => ⟨h1, .of_grow R h2⟩
end Go.Proofs.YtgobdndjemicjaaGreatDoor
namespace Go.Proofs.YtgobdndjemicjaaGreatDoor
open Go Go.RowKit Go.Shelf
theorem zo4 {E : Em} (he : E.err = 0) (hev : E.evs.length < 65536) (hw : zfu E.now) (a f : Nat) (v : Int) (ha : a < E.now.objs.length) (hf : f < 18) (h3 : f ≠ 3) (hv : -1073741824 ≤ v ∧ v ≤ 1073741824) : (E.setObj a f v).err = 0 := by
 have h0 : EmAt E E.now a (rowAt E.now.objs a) E.evs.length E := ⟨he, by rw [zo5], rfl, rfl, Nat.le_refl _, hw a ha⟩
 exact (h0.set ha f v hf h3 hv hev).err
theorem ztg (c o : Int) (hc : 0 ≤ c ∧ c < 120) (ho : o = 0 ∨ o = 1) : evCheck [0, c, o, 2, 0, 0] = 0 := by
 unfold evCheck zbx za5 zcf inR zcg inB
 simp only [gt, List.getD_cons_zero, List.getD_cons_succ]
 simp
 omega
theorem z8p {E : Em} (he : E.err = 0) (hev : E.evs.length < 65536) (hn : E.now.objs.length < 400) {c o : Int} (hc : 0 ≤ c ∧ c < 120) (ho : o = 0 ∨ o = 1) : (E.make c o 2).err = 0 := by
 have hd : zd5 E.now [0, c, o, 2, 0, 0] = .ok { E.now with objs := E.now.objs ++ [zdl [0, c, o, 2, 0, 0]], list := upd E.now.list 10 (E.now.list 10 ++ [(E.now.objs.length : Int)]) } := by
  unfold zd5
  have g0 : gt [0, c, o, 2, 0, 0] 0 = 0 := rfl
  rw [if_neg (fun h => h (ztg c o hc ho)), g0, if_pos rfl]
  unfold zfg
  rw [if_neg (by omega)]
 unfold Em.make Em.do1
 rw [if_neg (by rw [he]; simp), if_neg (by rw [he]; simp), hd]
 show (if E.evs.length < 65536 then _ else _ : Em).err = 0
 rw [if_pos hev]
 exact he
theorem zwc {m : Nat} {d : List Int} {E : Em} (h : Rg m d E) (hn : E.evs.length + 17 ≤ 65536) (h4 : E.now.objs.length < 400) {id n p : Int} (hh : za9 E.now id n = true) (hp : p = 0 ∨ p = 1) : (E.abil id n p).err = 0 := by
 unfold Em.abil
 rw [if_neg (by rw [h.err]; simp), hh, if_neg (by simp), if_neg (fun e => e hp)]
 obtain ⟨n0, n1, i0, i1⟩ := zdx hh
 obtain ⟨_, hc, _⟩ := zmf hh
 generalize gt (rowAt E.now.objs id.toNat) 0 = c at *
 obtain ⟨O1, O2, O3⟩ := h.mids hh c p
 obtain ⟨x, hx, hl⟩ := zqg h.err (by omega) c p 2
 have e1 := z8p h.err (by omega) h4 hc hp
 have v1 := zmp E c p 2
 rw [hx] at O2 O3 ⊢
 have v2 := zel (E.make c p 2) x 14 n
 have v3 := zel ((E.make c p 2).setObj x 14 n) x 15 (wrap64 (id + 1))
 have l2 := zd3 (E.make c p 2) x 14 n
 have l3 := zd3 ((E.make c p 2).setObj x 14 n) x 15 (wrap64 (id + 1))
 have hn9 : E.now.objs.length ≤ 400 := h.right.many
 have hwr : wrap64 (id + 1) = id + 1 := by unfold wrap64; omega
 have R1 := O1.err e1
 have e2 : ((E.make c p 2).setObj x 14 n).err = 0 := zo4 e1 (by omega) R1.wid x 14 n hl (by omega) (by omega) (by omega)
 have R2 := O2.err e2
 have e3 : (((E.make c p 2).setObj x 14 n).setObj x 15 (wrap64 (id + 1))).err = 0 := zo4 e2 (by omega) R2.wid x 15 _ (by omega) (by omega) (by omega) (by omega)
 have R3 := O3.err e3
 obtain ⟨z, cc, dd, hz, hz11, hcl, hca, hd, hd11, P⟩ := zh7 R3.err R3.right R3.wid x (by omega) 9 (by decide) (by omega)
 exact P.err
structure UpTo (d : List Int) (S : St) (E : Em) (k : Nat) : Prop where
 rg : Rg 0 d E
 evs : E.evs.length ≤ 17 * k
 many : E.now.objs.length = S.objs.length + k
 num : E.now.num = S.num
 objs : ∀ i, i < S.objs.length → rowAt E.now.objs i = rowAt S.objs i
theorem UpTo.has {d : List Int} {S : St} {E : Em} {k : Nat} (h : UpTo d S E k) {id n : Int} (hh : za9 S id n = true) : za9 E.now id n = true := by
 obtain ⟨h1, h2, h3⟩ := zmf hh
 have := h.many
 unfold za9
 rw [h.objs id.toNat (by omega), decide_eq_true (show 0 ≤ id ∧ id < E.now.objs.length by omega), decide_eq_true h2, decide_eq_true h3]; rfl
theorem UpTo.step {d : List Int} {S : St} {E : Em} {k : Nat} (h : UpTo d S E k) (hk : S.objs.length + k < 400) {id n : Int} (hh : za9 S id n = true) (hp : S.num 19 = 0 ∨ S.num 19 = 1) : UpTo d S (E.abil id n (S.num 19)) (k + 1) := by
 have hm := h.many
 have hv := h.evs
 have e0 := zwc h.rg (by omega) (by omega) (h.has hh) hp
 rcases h.rg.abil id n (S.num 19) with h1 | A
 · exact absurd e0 h1
 · exact ⟨A.rg, by have := z09 h.rg (by omega) id n (S.num 19) e0; omega, by rw [A.many, hm]; omega, A.num.trans h.num, fun i hi => (A.objs i (by omega)).trans (h.objs i hi)⟩
theorem zsl (E : Em) (l : LR) (r : List Int) : E.abils (l ++ [r]) = (E.abils l).abil (gt r 0) (gt r 1) (gt r 2) := by
 unfold Em.abils
 rw [List.foldl_append]; rfl
end Go.Proofs.YtgobdndjemicjaaGreatDoor
namespace Go.Proofs.YtgobdndjemicjaaGreatDoor
open Go Go.RowKit Go.Shelf
def zjk (S : St) (k d j : Nat) : LR := zc8 S k ++ (if gt (rowAt S.objs d) 2 = S.num 19 then (zc9 (zbp S d).abs 4 j).map fun i => [(d : Int), i, S.num 19] else [])
theorem zzx (S : St) (k d : Nat) : zjk S k d 0 = zc8 S k := by
 unfold zjk zc9
 split <;> simp
theorem z5h (S : St) (k d : Nat) (h : k < (S.list 8).length) (hd : gt (S.list 8) k = d) : zjk S k d (zbp S d).abs.length = zc8 S (k + 1) := by
 rw [zi6 S k h, hd]
 unfold zjl
 rw [Int.toNat_natCast]; rfl
theorem zzv (S : St) (k d j : Nat) (h : ((zbp S d).abs.getD j ⟨0, 0, 0, 0, 0⟩).wh ≠ 4 ∨ gt (rowAt S.objs d) 2 ≠ S.num 19) : zjk S k d (j + 1) = zjk S k d j := by
 unfold zjk
 by_cases hc : gt (rowAt S.objs d) 2 = S.num 19
 · rw [if_pos hc, if_pos hc, zew, if_neg (by
    rcases h with h | h
    · simpa using h
    · exact absurd hc h), List.append_nil]
 · rw [if_neg hc, if_neg hc]
theorem zzw (S : St) (k d j : Nat) (h : ((zbp S d).abs.getD j ⟨0, 0, 0, 0, 0⟩).wh = 4) (hc : gt (rowAt S.objs d) 2 = S.num 19) : zjk S k d (j + 1) = zjk S k d j ++ [[(d : Int), (j : Int), S.num 19]] := by
 unfold zjk
 rw [if_pos hc, if_pos hc, zew, if_pos (by simpa using h), List.map_append, ← List.append_assoc]; rfl
theorem z5i (S : St) (k d j : Nat) : (zjk S k d j).length ≤ (zc8 S k).length + j := by
 unfold zjk
 rw [List.length_append]
 split
 · rw [List.length_map]
   unfold zc9
   rw [List.length_map]
   have := List.length_filter_le (fun i => ((zbp S d).abs.getD i ⟨0, 0, 0, 0, 0⟩).wh == 4) (List.range j)
   rw [List.length_range] at this
   omega
 · simp
theorem zpd (S : St) (k : Nat) : (zc8 S k).length ≤ 2 * k := by
 induction k with
 | zero => simp [zc8]
 | succ k ih =>
   by_cases h : k < (S.list 8).length
   · rw [zi6 S k h, List.length_append]
     have : (zjl S (gt (S.list 8) k)).length ≤ 2 := by
      unfold zjl
      split
      · rw [List.length_map]; exact Nat.le_trans (zgk _ _) (zgu S _)
      · simp
     omega
   · have e : zc8 S (k + 1) = zc8 S k := by unfold zc8; rw [List.take_of_length_le (by omega), List.take_of_length_le (by omega)]
     rw [e]; omega
theorem zp2 (w : World) (b : Nat) (own : Nat → Prop) (E : Em) (R : Gmt w b own E) (he : E.err ≠ 0) :
 Calls Tryz.prog 34 #[.pointer (some ⟨b, 0, none⟩)] w fun r w' => r = .returned (.int .i64 0) ∧ Grow w w' := by
 obtain ⟨V, sd, se, sp, hr, ho⟩ := R
 have hc40 := hr.errCell
 have hlt := hr.host.lt
 have hb : (E.err != 0) = true := by simpa using he
 clear hr ho
 generalize E.err = x at *
 go_enter Tryz.func34, Tryz.ntmps34
 go_wp2_with fail
 go_ret
 exact ⟨rfl, grI⟩
set_option maxRecDepth 100000 in
set_option maxHeartbeats 8000000 in
theorem zn5 (T8 : zem) (w : World) (b : Nat) (own : Nat → Prop) (E : Em) (R : Gmt w b own E) {dr : List Int} (h : Rg 0 dr E) (hev : E.evs.length = 0) (hmany : E.now.objs.length + 2 * (E.now.list 8).length < 390) :
 Calls Tryz.prog 34 #[.pointer (some ⟨b, 0, none⟩)] w fun r w' => r = .returned (.int .i64 (znf E.now).length) ∧ DPost w b own (E.abils (znf E.now)) w' := by
 have hU0 : UpTo dr E.now (E.abils (zc8 E.now 0)) (zc8 E.now 0).length := ⟨h, by show E.evs.length ≤ _; omega, rfl, rfl, fun _ _ => rfl⟩
 have hE0 : E.abils (zc8 E.now 0) = E := rfl
 have hRt := h.right
 have hact : E.now.num 19 = 0 ∨ E.now.num 19 = 1 := by
  have := hRt.gm 1 (by omega)
  simp [gmBounds, gt] at this
  omega
 rw [← zim]
 obtain ⟨V, sd, se, sp, hr, ho⟩ := id R
 have hlen8 := (hr.host.rep.list 8 (by decide)).len
 have hc40 := hr.errCell
 rw [h.err] at hc40
 have hLI := Lib.hid (hr.host.rep.list 8 (by decide))
 have hH := hr.host
 have hcell := zae (hH).free (hH).blk; have hfz := zag (hH).free; have hset := zah (hH).free (hH).blk; have hblk := (hH).blk; have hfree := (hH).free; have hlt := (hH).lt; have hne1 : ¬ b = (w).heap.size := (by omega); have hne2 : ¬ (w).heap.size = b := (by omega)
 have HLT := Lib.hid R.lt
 have HR0 := Lib.hid R
 clear hr ho hH hset h hev R
 have hlen := hlen8
 have HT8 := Lib.hid T8
 clear T8
 generalize hS : E.now = S at *
 have HS := Lib.hid hS
 clear hS
 go_enter Tryz.func34, Tryz.ntmps34
 go_wp2_with (at_builtin; refine zb1 rfl _ _ 23 rfl 3 Tryz.t3 (.int .i64 0) 1 8 Tryz.underlying23 (by kernel_rfl) (by kernel_rfl) (by kernel_rfl) (by kernel_rfl) (by omega) rfl w (zxv _) (V.list 8) [] ((S.list 8).map I) rfl rfl (Made.empty 1 (by omega) (by simp only [zaa]; omega)) grI (hLI.out.grow grI).cells (by simp) (zbn _) (by rw [zxw]; omega) ?_; intro s2 y c1 _ c3 _; have C := Lib.hid (And.intro c1 c3); clear c1 c3)
 have hM := C.out.1
 rw [List.nil_append] at hM
 have hI1 := hM.cells.ints
 have hlow : 0 < (S.list 8).length → ¬ own s2.b := fun hp ho => by
  have h1 := (hM.own s2.b (zbk hI1 hp)).1
  have h2 := HLT.out _ ho
  omega
 have HS2N := Lib.hid (show s2.n = (S.list 8).length from hI1.len)
 have hG1 : Grow w (w.plus y) := grI
 have hem1 := HR0.out.grow hG1
 have hlt1 : b < (w.plus y).heap.size := by rw [zab]; omega
 have HI1 := Lib.hid hI1
 have HLOW := Lib.hid hlow
 have HG1 := Lib.hid hG1
 have HEM1 := Lib.hid hem1
 clear C hM hI1 hlow hG1 hem1 HR0 hLI hcell hfz hblk hfree hc40 HLT hlen8 hlen
 generalize w.plus y = W1 at *
 have HE0 := Lib.hid hE0
 have HU0 := Lib.hid hU0
 have HRT := Lib.hid hRt
 have HMN := Lib.hid hmany
 have HAC := Lib.hid hact
 clear hE0 hU0 hRt hmany hact
 go_wp2_with fail
 go_loopw [3, 26] (fun n i wr => ∃ (k : Nat) (ownk : Nat → Prop), k ≤ (S.list 8).length ∧ i = .int .i64 k ∧ n = .int .i64 (zc8 S k).length ∧ Hid (UpTo dr S (E.abils (zc8 S k)) (zc8 S k).length) ∧ TurnG W1 b own (E.abils (zc8 S k)) wr ownk) (fun _ i _ => (S.list 8).length - (intOf i).toNat)
 case atStart => exact ⟨0, own, by omega, rfl, rfl, HU0.out, by rw [HE0.out]; exact TurnG.first HEM1.out⟩
 case round =>
  obtain ⟨k, ownk, hk, rfl, rfl, HU, hTu⟩ := hrel
  have HTu := Lib.hid hTu
  by_cases hlt : k < (S.list 8).length
  · have hkn : (k : Int) < (s2.n : Int) := by have := HS2N.out; omega
    generalize wr = wo at *
    obtain ⟨hlb, hlc⟩ := (HI1.out.kept hTu.kept (fun hp => HLOW.out hp)).at k hlt
    obtain ⟨o1, o2, _, _⟩ := HRT.out.zon.ok 8 (by decide) (gt (S.list 8) k) (by rw [zkl _ _ hlt]; exact List.getElem_mem hlt)
    have hkl : (zc8 S k).length ≤ 2 * k := zpd S k
    have hmn := HMN.out
    generalize hid : gt (S.list 8) k = id at *
    obtain ⟨d, rfl⟩ := Int.eq_ofNat_of_zero_le o1
    have hd : d < S.objs.length := by omega
    have hcd := HRT.out.card hd
    obtain ⟨c, hc⟩ := Int.eq_ofNat_of_zero_le hcd.1
    have hc120 : c < 120 := by omega
    have hkc : zbp S d = cardN c := by unfold zbp; rw [hc, Int.toNat_natCast]
    have HCa := Lib.hid (fun W => HT8.out W c hc120)
    have HOK := Lib.hid (fun (W W' : World) cc (h : CardIs W' W.heap.size cc (cardF c)) => h.ok hc120)
    obtain ⟨V2, sd2, se2, sp2, hr2, ho2⟩ := hTu.em
    have hmy := HU.out.many
    have hoc := hr2.host.rep.objs.cell d 0 (by omega) (by omega)
    rw [Nat.add_zero, HU.out.objs d hd, hc] at hoc
    have hN2 := hr2.host.rep.objs.len
    rw [hmy] at hN2
    have hob := (zaz hoc).1
    have hH2 := hr2.host
    have hcell2 := zae hH2.free hH2.blk
    have hlt2 := hH2.lt
    have hne3 : ¬ b = wo.heap.size := by omega
    have hne4 : ¬ wo.heap.size = b := by omega
    have hd1 : (d : Int) < ((S.objs.length + (zc8 S k).length : Nat) : Int) := by omega
    have hd2 : (d : Int) < (S.objs.length : Int) + ((zc8 S k).length : Int) := by omega
    change wo.cell? _ = some (Value.int .i64 (c : Int)) at hoc
    have hJ0 : zjk S k d 0 = zc8 S k := zzx S k d
    have hJA : zjk S k d (cardN c).abs.length = zc8 S (k + 1) := by rw [← hkc]; exact z5h S k d hlt hid
    have hJS := fun j => zzv S k d j
    have hJT := fun j => zzw S k d j
    have hJL := fun j => z5i S k d j
    rw [hkc] at hJS hJT
    have HJ0 := Lib.hid hJ0
    have HJA := Lib.hid hJA
    have HJS := Lib.hid hJS
    have HJT := Lib.hid hJT
    have HJL := Lib.hid hJL
    have HLK := Lib.hid hTu.em.lt
    have hab : (cardN c).abs.length ≤ 2 := zfx c
    have HHas : Hid (∀ j : Nat, j < (cardN c).abs.length → za9 S d j = true) := fun j hj => by
     unfold za9
     rw [Int.toNat_natCast, hc, Int.toNat_natCast, decide_eq_true (show (0 : Int) ≤ (d : Int) ∧ (d : Int) < S.objs.length by omega), decide_eq_true (show (0 : Int) ≤ (c : Int) ∧ (c : Int) < 120 by omega), decide_eq_true (show (0 : Int) ≤ (j : Int) ∧ (j : Int) < (cardN c).abs.length by omega)]; rfl
    have hCM : (cardN c).abs = (cardN c).abs := rfl
    generalize hm : (cardN c).abs = m at *
    have HM := Lib.hid hm
    clear hm hCM hJ0 hJA hJS hJT hJL hr2 ho2 hH2 hTu hcd hc hkc hid o1 o2 hmy
    go_wp2_with (go_at_call 39; refine (HCa.out _).mono ?_; rintro e' w' ⟨cc, rfl, hC, nx, rfl⟩; have hC2 := HOK.out _ _ _ hC; (try simp only [zad] at hC2); (try simp only [zac] at hC2); have HC := Lib.hid hC2; have HCN := Lib.hid (show cc.abs.n = m.length by rw [hC2.abs_n, HM.out]); clear hC hC2)
    have hG : Grow wo ((wo.plus nx).alloc (.cells cc.arr 44)) := grI
    have hC1 := HC.out.grow (w' := (wo.plus nx).alloc (.cells cc.arr 44)) grI
    have hem2 := HTu.out.em.grow hG
    have hlow2 : ∀ i : Nat, i < (cardN c).abs.length → wo.heap.size ≤ cc.abs.b := fun i hi => HC.out.ab_low hi
    have hsz2 : wo.heap.size < ((wo.plus nx).alloc (.cells cc.arr 44)).heap.size := by simp only [zaa, zab]; omega
    have hlt3 : b < ((wo.plus nx).alloc (.cells cc.arr 44)).heap.size := by omega
    have HG := Lib.hid hG
    have HC1 := Lib.hid hC1
    have HEM := Lib.hid hem2
    have HLOW2 := Lib.hid hlow2
    clear hG hC1 hem2 hlow2 HC hcell2 hoc hob hN2 hlb hlc
    generalize (wo.plus nx).alloc (.cells cc.arr 44) = W2 at *
    go_loopw [3, 46] (fun n i wr => ∃ (j : Nat) (ownj : Nat → Prop), j ≤ m.length ∧ i = .int .i64 j ∧ n = .int .i64 (zjk S k d j).length ∧ Hid (UpTo dr S (E.abils (zjk S k d j)) (zjk S k d j).length) ∧ TurnG W2 b ownk (E.abils (zjk S k d j)) wr ownj) (fun _ i _ => m.length - (intOf i).toNat)
    case atStart => exact ⟨0, ownk, by omega, rfl, by rw [HJ0.out], by rw [HJ0.out]; exact HU.out, by rw [HJ0.out]; exact TurnG.first HEM.out⟩
    case round =>
     obtain ⟨j, ownj, hj, rfl, rfl, HUj, hTj⟩ := hrel
     have HTj := Lib.hid hTj
     by_cases hlj : j < m.length
     · have hlj2 : j < (cardN c).abs.length := by rw [HM.out]; exact hlj
       obtain ⟨ab, -, q1, q2, q3, -, q5⟩ := HC1.out.ab hlj2
       have hlow := HLOW2.out j hlj2
       have hbk := hTj.kept.blk _ q1 (fun ho => by have := HLK.out _ ho; omega)
       have q1' : cc.abs.b < wr.heap.size := Nat.lt_of_lt_of_le q1 hTj.kept.size
       rw [← hbk] at q2 q3
       have hwh : (m.getD j ⟨0, 0, 0, 0, 0⟩).wh = ab.wh := by rw [← HM.out]; exact q5.1.symm
       have i1 : (0 : Int) ≤ (j : Int) ∧ (j : Int) < (cc.abs.n : Int) := by have := HCN.out; omega
       have hJl := HJL.out j
       have HH := Lib.hid (HHas.out j hlj)
       obtain ⟨V3, sd3, se3, sp3, hr3, ho3⟩ := hTj.em
       have hmy := HUj.out.many
       have hoc := hr3.host.rep.objs.cell d 2 (by omega) (by omega)
       rw [HUj.out.objs d hd] at hoc
       have hN3 := hr3.host.rep.objs.len
       rw [hmy] at hN3
       have hob := (zaz hoc).1
       have hc40 := hr3.errCell
       rw [HUj.out.rg.err] at hc40
       have hH3 := hr3.host
       have hcell3 := zae hH3.free hH3.blk
       have hc0 : wr.cell? ⟨b, 0, none⟩ = some V3.objs.val := (hcell3 0).trans rfl
       have hc31 : wr.cell? ⟨b, 31, none⟩ = some (I (S.num 19)) := by rw [hcell3, show 31 = 12 + 19 from rfl, zlp _ _ _ _ (by omega), zbb _ _ _ (by omega), HUj.out.num]
       have hlt4 := hH3.lt
       have hne5 : ¬ b = wr.heap.size := by omega
       have hne6 : ¬ wr.heap.size = b := by omega
       have hd3 : (d : Int) < ((S.objs.length + (zjk S k d j).length : Nat) : Int) := by omega
       have hd4 : (d : Int) < (S.objs.length : Int) + ((zjk S k d j).length : Int) := by omega
       have hjn : (zjk S k d j).length + S.objs.length ≤ 390 := by have := HMN.out; omega
       clear hTj q5 hbk hr3 ho3 hH3 hcell3 hmy
       change wr.cell? _ = some (Value.int .i64 (gt (rowAt S.objs d) 2)) at hoc
       have HSk := Lib.hid (HJS.out j)
       have HTk := Lib.hid (HJT.out j)
       rw [hwh] at HSk HTk
       clear hwh
       cases hw4 : (ab.wh == 4) with
       | false =>
         have hne : ab.wh ≠ 4 := by simpa using hw4
         have HN := Lib.hid (HSk.out (Or.inl hne))
         clear hne HSk HTk
         go_wp2_with fail
         refine zaf (by kernel_rfl) (by kernel_rfl) ?_; (repeat (go_big_quiet_step ( fail ))); refine wpQuiet_nil ?_; rintro _ ⟨nx, rfl⟩
         go_wp2_with fail
         go_roundw
         case rel => exact ⟨j + 1, ownj, by omega, by go_num, by rw [HN.out], by rw [HN.out]; exact HUj.out, by rw [HN.out]; exact HTj.out.grow grI⟩
         case measure => simp [intOf]; omega
       | true =>
         have he4 : ab.wh = 4 := by simpa using hw4
         by_cases hctl : gt (rowAt S.objs d) 2 = S.num 19
         · have HN := Lib.hid (HTk.out he4 hctl)
           have hle : (zjk S k d (j + 1)).length = (zjk S k d j).length + 1 := by rw [HN.out]; simp
           have HLE := Lib.hid hle
           have HAb := Lib.hid (fun Wx (g : Grow wr Wx) => zn4 HT8.out Wx b ownj _ (HTj.out.em.grow g) (Or.inr HUj.out.rg) (by omega) (fun _ => by have := HUj.out.evs; omega) (fun _ => by have := HUj.out.many; omega) (d : Int) (j : Int) (S.num 19))
           have HUn := Lib.hid (HUj.out.step (by omega) HH.out HAC.out)
           have hab2 : (E.abils (zjk S k d j)).abil (d : Int) (j : Int) (S.num 19) = E.abils (zjk S k d (j + 1)) := by rw [HN.out, zsl]; rfl
           rw [hab2] at HAb HUn
           rw [← HLE.out] at HUn
           rw [hctl] at hoc
           have hxx : (S.num 19 == S.num 19) = true := by simp
           generalize (zjk S k d j).length = nj at *
           clear hle he4 hctl HSk HTk hab2
           go_wp2_with fail
           refine zaf (by kernel_rfl) (by kernel_rfl) ?_; (repeat (go_big_quiet_step ( fail ))); refine wpQuiet_nil ?_; rintro _ ⟨nx, rfl⟩
           go_wp2_with fail
           refine (HAb.out _ grI).mono ?_
           rintro e' w4 ⟨rfl, hE⟩
           obtain ⟨own4, T4⟩ := HTj.out.step grI hE
           have HT4 := Lib.hid T4
           clear hE T4
           go_wp2_with fail
           go_roundw
           case rel => exact ⟨j + 1, own4, by omega, by go_num, by rw [HLE.out]; go_num, HUn.out, HT4.out.grow grI⟩
           case measure => simp [intOf]; omega
         · have HN := Lib.hid (HSk.out (Or.inr hctl))
           have hne : (gt (rowAt S.objs d) 2 == S.num 19) = false := by simpa using hctl
           generalize gt (rowAt S.objs d) 2 = ctl at *
           clear he4 hctl HSk HTk
           go_wp2_with fail
           refine zaf (by kernel_rfl) (by kernel_rfl) ?_; (repeat (go_big_quiet_step ( fail ))); refine wpQuiet_nil ?_; rintro _ ⟨nx, rfl⟩
           go_wp2_with fail
           go_roundw
           case rel => exact ⟨j + 1, ownj, by omega, by go_num, by rw [HN.out], by rw [HN.out]; exact HUj.out, by rw [HN.out]; exact HTj.out.grow grI⟩
           case measure => simp [intOf]; omega
     · have hjm : j = m.length := by omega
       subst hjm
       rw [HJA.out] at HUj HTj
       obtain ⟨own4, T4⟩ := HTu.out.step HG.out (HTj.out.post (Grow.refl _))
       have HT4 := Lib.hid T4
       have hjc : ¬ ((m.length : Int) < (cc.abs.n : Int)) := by have := HCN.out; omega
       clear T4 hTj
       have hjl : (zjk S k d m.length).length = (zc8 S (k + 1)).length := by rw [HJA.out]
       rw [hjl]
       clear hjl
       go_wp2_with fail
       go_roundw
       case rel => exact ⟨k + 1, own4, by omega, by go_num, rfl, HUj.out, HT4.out.grow grI⟩
       case measure => simp [intOf]; omega
  · have hkl : k = (S.list 8).length := by omega
    subst hkl
    obtain ⟨V2, sd2, se2, sp2, hr2, ho2⟩ := hTu.em
    have hc40 := hr2.errCell
    rw [HU.out.rg.err] at hc40
    have hlt2 := hr2.host.lt
    have hkn : ¬ (((S.list 8).length : Int) < (s2.n : Int)) := by have := HS2N.out; omega
    clear hr2 ho2 hTu
    go_wp2_with fail
    go_ret
    exact ⟨rfl, ((HTu.out.post (Grow.refl _)).more grI).low HG1.out⟩
end Go.Proofs.YtgobdndjemicjaaGreatDoor
