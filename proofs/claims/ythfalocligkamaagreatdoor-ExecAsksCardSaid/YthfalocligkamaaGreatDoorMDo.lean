/- The walk of event's move: an object moves. -/
import Derived.Test.YthfalocligkamaaGreatDoorMEv2
import Derived.Test.YthfalocligkamaaGreatDoorMEq
namespace Go.Proofs.YthfalocligkamaaGreatDoor
open Go Go.RowKit
attribute [local go_sem ↓] Go.wp_at_zero Go.wp_at_succ
theorem Rows'.setObj {w : World} {s : Sl} {k : Nat} {l : List (List Int)} (h : Rows' w s k l) (i f : Nat) (x : Int) (hi : i < l.length) (hf : f < k) : Rows' (w.setCell ⟨s.b, s.o + i * k + f, none⟩ (I x)) s k (l.set i ((rowAt l i).set f x)) := by
 refine ⟨by rw [List.length_set]; exact h.len, h.cap, fun j hj => ?_, fun j g hj hg => ?_⟩
 · rw [List.length_set] at hj
   rw [zb5 _ _ _ _ hi]
   split
   · rw [List.length_set]; exact h.wid i hi
   · exact h.wid j hj
 · rw [List.length_set] at hj
   have hc := h.cell j g hj hg
   rw [zb5 _ _ _ _ hi]
   by_cases e1 : i = j
   · subst e1
     rw [if_pos rfl, zeh _ _ _ _ (by rw [h.wid i hi]; exact hf)]
     by_cases e2 : f = g
     · subst e2
       rw [if_pos rfl]
       exact World.cell?_setCell_same _ _ _ hc
     · rw [if_neg e2, World.cell?_setCell_other _ _ _ _ (by simp only [ne_eq, Addr.mk.injEq, true_and, and_true]; omega)]; exact hc
   · rw [if_neg e1, World.cell?_setCell_other _ _ _ _ (by
      simp only [ne_eq, Addr.mk.injEq, true_and, and_true]
      intro e
      rcases Nat.lt_or_gt_of_ne e1 with h1 | h1
      · have : (i + 1) * k ≤ j * k := Nat.mul_le_mul_right _ h1
        rw [Nat.add_mul] at this; omega
      · have : (j + 1) * k ≤ i * k := Nat.mul_le_mul_right _ h1
        rw [Nat.add_mul] at this; omega)]; exact hc
theorem zg4 {w : World} {b : Nat} {cs : Array Value} {o : Obj} {q : Ext} {s : Sl} {l : List Int} (h : Ints ((w.alloc o).plus q) s l) (hs : ∀ k, s.owns k → k ≠ b) : Ints (((w.setRow b cs).alloc o).plus q) s l :=
 h.off (b := b) (by repeat (first | exact Off.setRow2 _ _ _ _ | exact Off.setRow _ _ _ | refine Off.plus ?_ _ | refine Off.alloc ?_ _)) (fun hl e => hs _ (zbs h hl) e)
theorem zk2 {w : World} {b : Nat} {V : SV} {S : St} {rest : Array Value} (H : Host w b V S rest) (a bz c dz ei : Nat) (hA : a < S.objs.length) (o : Obj) (p q : Ext) (so s1 s2 : Sl)
 (hI2 : Ints (((w.setRow b (hoA { V with list := upd (upd V.list bz s1) dz s2 } S.num rest)).alloc o).plus p) s2 ((zbz S bz c dz).insertIdx ei (a : Int)))
 (hI1 : dz ≠ bz → Ints (((w.setRow b (hoA { V with list := upd (upd V.list bz s1) dz s2 } S.num rest)).alloc o).plus p) s1 ((S.list bz).eraseIdx c))
 (R5 : Rows' (((w.setRow b (hoA { objs := so, list := upd (upd V.list bz s1) dz s2 } S.num rest)).alloc o).plus p) so 18 S.objs)
 (hso : ∀ k, so.owns k → w.heap.size + 1 ≤ k ∧ k < w.heap.size + 1 + p.objs.size) (h1 : ∀ k, s1.owns k → w.heap.size + 1 ≤ k ∧ k < w.heap.size + 1 + p.objs.size) (h2 : ∀ k, s2.owns k → w.heap.size + 1 ≤ k ∧ k < w.heap.size + 1 + p.objs.size)
 (hD1 : ∀ k j, s1.owns k → so.owns j → k < j) (hD2 : ∀ k j, s2.owns k → so.owns j → k < j) :
 Done w b V rest (zbt S a bz c dz ei) (zh2 ((w.setRow b (hoA { objs := so, list := upd (upd V.list bz s1) dz s2 } S.num rest)).alloc o) (p.and q) so.b (so.o + a * 18 + 3) (I dz)) := by
 have hob := zbn R5 (by omega)
 have hlt := H.lt
 have hsob := hso _ hob
 unfold zh2
 have hK6 : Kept (fun k => k = b ∨ k = so.b) (((w.setRow b (hoA { V with list := upd (upd V.list bz s1) dz s2 } S.num rest)).alloc o).plus p) ((((w.setRow b (hoA { objs := so, list := upd (upd V.list bz s1) dz s2 } S.num rest)).alloc o).plus (p.and q)).setCell ⟨so.b, so.o + a * 18 + 3, none⟩ (I dz)) := by
  refine Kept.setCell (own := fun k => k = b ∨ k = so.b) ?_ _ _ _ (fun _ => Or.inr rfl)
  rw [← zad]
  refine Kept.plus ?_ q
  have ho : Off b (((w.setRow b (hoA { V with list := upd (upd V.list bz s1) dz s2 } S.num rest)).alloc o).plus p) (((w.setRow b (hoA { objs := so, list := upd (upd V.list bz s1) dz s2 } S.num rest)).alloc o).plus p) := (by repeat (first | exact Off.setRow2 _ _ _ _ | exact Off.setRow _ _ _ | refine Off.plus ?_ _ | refine Off.alloc ?_ _))
  exact (ho.kept rfl rfl rfl).mono (fun _ _ h => Or.inl h)
 have hold : ∀ z, z < 11 → Ints (((w.setRow b (hoA { V with list := upd (upd V.list bz s1) dz s2 } S.num rest)).alloc o).plus p) (V.list z) (S.list z) := fun z hz =>
  ((H.rep.list z hz).off (Off.setRow w b _) (fun hl h => H.apart (Or.inr ⟨z, hz, by rw [← h]; exact zbs (H.rep.list z hz) hl⟩))).grow grI
 refine ⟨⟨so, upd (upd V.list bz s1) dz s2⟩, ?_, ⟨?_, fun z hz => ?_⟩, ?_⟩
 · refine Put.of_grow ((Kept.setCell (own := fun k => k = so.b) (Grow.kept _ (a := w.setRow b (hoA { objs := so, list := upd (upd V.list bz s1) dz s2 } S.num rest)) grI) so.b _ _ (fun _ => rfl)).grow (fun k hk h => ?_))
   have h : k = so.b := h
   rw [size_setRow] at hk
   omega
 · have := (R5.grow (⟨q, rfl⟩ : Grow _ ((((w.setRow b (hoA { objs := so, list := upd (upd V.list bz s1) dz s2 } S.num rest)).alloc o).plus p).plus q))).setObj a 3 (dz : Int) hA (by omega)
   rw [zad] at this
   exact this
 · show Ints _ (upd (upd V.list bz s1) dz s2 z) (upd (upd S.list bz ((S.list bz).eraseIdx c)) dz ((zbz S bz c dz).insertIdx ei (a : Int)) z)
   by_cases e1 : z = dz
   · subst e1
     rw [zbo, zbo]
     refine hI2.kept hK6 (fun hl h => ?_)
     have h3 := zbs hI2 hl
     have h4 := h2 _ h3
     have h5 := hD2 _ _ h3 hob
     omega
   · rw [zco _ _ _ _ e1, zco _ _ _ _ e1]
     by_cases e2 : z = bz
     · subst e2
       rw [zbo, zbo]
       have hI := hI1 (fun h => e1 h.symm)
       refine hI.kept hK6 (fun hl h => ?_)
       have h3 := zbs hI hl
       have h4 := h1 _ h3
       have h5 := hD1 _ _ h3 hob
       omega
     · rw [zco _ _ _ _ e2, zco _ _ _ _ e2]
       have hI := hold z hz
       refine hI.kept hK6 (fun hl h => ?_)
       have h3 : V.uses (V.list z).b := Or.inr ⟨z, hz, zbs hI hl⟩
       have h4 := H.in' _ h3
       rcases h with h | h
       · exact H.apart (by rw [← h]; exact h3)
       · omega
 · have hsz : ((((w.setRow b (hoA { objs := so, list := upd (upd V.list bz s1) dz s2 } S.num rest)).alloc o).plus (p.and q)).setCell ⟨so.b, so.o + a * 18 + 3, none⟩ (I dz)).heap.size = w.heap.size + 1 + p.objs.size + q.objs.size := by
    rw [show ∀ (W : World) (x : Addr) (v : Value), (W.setCell x v).heap.size = W.heap.size from fun W x v => (by simp [World.setCell]), zac, zaa, size_setRow]; simp only [Ext.and, Array.size_append]; omega
   rw [hsz]
   rintro k (hk | ⟨z, hz, hk⟩)
   · have := hso k hk; right; omega
   · have hk : (upd (upd V.list bz s1) dz s2 z).owns k := hk
     by_cases e1 : z = dz
     · subst e1; rw [zbo] at hk; have := h2 k hk; right; omega
     · rw [zco _ _ _ _ e1] at hk
       by_cases e2 : z = bz
       · subst e2; rw [zbo] at hk; have := h1 k hk; right; omega
       · rw [zco _ _ _ _ e2] at hk
         exact Or.inl (Or.inr ⟨z, hz, hk⟩)
set_option maxRecDepth 100000 in
set_option maxHeartbeats 2000000 in
theorem z7x (S : St) (V : SV) (b : Nat) (rest : Array Value) (e : List Int) (a bz c dz ei : Nat) (E : MoveEv e a bz c dz ei) (w : World) (H : Host w b V S rest) (hS : Small S) (hA : a < S.objs.length) (hC : c < (S.list bz).length) (hx : gt (S.list bz) c = a) (hE : ei ≤ (zbz S bz c dz).length) :
 Calls Tryz.prog 162 #[.pointer (some ⟨b, 0, none⟩), .agg (cellsOf e)] w fun r w' => r = .returned .nilIface ∧ Done w b V rest (zbt S a bz c dz ei) w' := by
 have hN := H.rep.objs.len
 have HH := Lib.hid H
 obtain ⟨he, q1, q2, q3, q4, q5, hb', hd'⟩ := E
 have hlb := hS.list bz hb'
 have hSO := hS.objs
 have hlB := (H.rep.list bz hb').len
 have hbI : (bz : Int) < 11 := by omega
 have hbJ : (0 : Int) ≤ (bz : Int) := by omega
 have hcell := zaf (H).free (H).blk; have hfz := zah (H).free; have hset := zag (H).free (H).blk; have hblk := (H).blk; have hfree := (H).free; have hlt := (H).lt; have hne1 : ¬ b = (w).heap.size := (by omega); have hne2 : ¬ (w).heap.size = b := (by omega)
 have HS := Lib.hid hS
 clear H hS
 have hlen : ¬ ((S.objs.length : Int) ≤ (a : Int)) := by omega
 have hdI : (dz : Int) < 11 := by omega
 have hdJ : (0 : Int) ≤ (dz : Int) := by omega
 have aI : (a : Int) < S.objs.length := by omega
 have aJ : (0 : Int) ≤ (a : Int) := by omega
 go_enter Tryz.func162, Tryz.ntmps162
 go_wp2_with fail
 refine zab (by kernel_rfl) (by kernel_rfl) ?_; (repeat (go_big_quiet_step ( fail ))); refine wpQuiet_nil ?_; rintro _ ⟨nx, rfl⟩
 go_wp2_with fail
 go_upto_region 3 with fail
 go_cut [5, 6, 7] (fun v5 v6 v7 wx => ∃ (s1 : Sl) (y : Ext), v5 = s1.val ∧ v6 = .int .i64 a ∧ v7 = .nilIface ∧ wx = (w.alloc (.cells (cellsOf e) 90)).plus y ∧ Ints wx s1 ((S.list bz).eraseIdx c) ∧ ∀ k, s1.owns k → w.heap.size + 1 ≤ k ∧ k < wx.heap.size)
 case first =>
  go_region_with (go_at_call 185; refine (zf2 _ (V.list bz) (S.list bz) c ((HH.out.rep.list bz hb').grow grI) hC hlb).mono ?_; rintro e' w' ⟨s1, rfl, hI1, hf1, n1, rfl⟩; (try simp only [zae] at hI1 hf1); (try simp only [zad] at hI1 hf1); rw [hx])
  all_goals
   go_wp2_with fail
   go_meet
   refine ⟨s1, _, rfl, rfl, rfl, rfl, hI1, fun k hk => ⟨?_, (hf1 k hk).2⟩⟩
   have h1 := (hf1 k hk).1
   have h2 := Grow.size (w := w.alloc (.cells (cellsOf e) 90)) (w' := ((w.alloc (.cells (cellsOf e) 90)).plus nx).drew) grI
   rw [zaa] at h2
   omega
 case rest =>
  obtain ⟨s1, y, rfl, rfl, rfl, rfl, hI1, hf1⟩ := hcut
  have HI1 := Lib.hid hI1
  have HF1 := Lib.hid hf1
  clear hI1 hf1 hx
  go_wp2_with fail
  refine zab (by kernel_rfl) (by kernel_rfl) ?_; (repeat (go_big_quiet_step ( fail ))); refine wpQuiet_nil ?_; rintro _ ⟨nx, rfl⟩
  by_cases hdb : dz = bz
  · subst hdb
    have hmt : zbz S dz c dz = (S.list dz).eraseIdx c := by unfold zbz; rw [if_pos rfl]
    rw [hmt] at hE
    have HE := Lib.hid hE
    have HLE : Hid (((S.list dz).eraseIdx c).length ≤ 1048576) := by rw [Hid, List.length_eraseIdx_of_lt hC]; omega
    have HMT := Lib.hid hmt
    clear hE hmt
    go_wp2_with (go_at_call 186; refine (zky _ s1 ((S.list dz).eraseIdx c) ei (a : Int) (HI1.out.grow grI) HE.out HLE.out).mono ?_; rintro e' w' ⟨s2, rfl, hI2, hf2, n2, rfl⟩; (try simp only [zad] at hI2 hf2); have HI2 := Lib.hid hI2; have HF2 := Lib.hid hf2; clear hI2 hf2)
    refine zat [0, 1, 2, 3, 4, 5, 6] 7 [] (by kernel_rfl) (by kernel_rfl) ?_; simp only [zby, List.getElem?_cons_zero, List.getElem?_cons_succ]; (repeat (go_big_quiet_step ( fail ))); refine wpQuiet_nil ?_; rintro _ ⟨nx, rfl⟩
    go_wp2_with fail
    refine zat [0, 1, 2, 3, 4, 5, 6] 7 [] (by kernel_rfl) (by kernel_rfl) ?_; simp only [zby, List.getElem?_cons_zero, List.getElem?_cons_succ]; (repeat (go_big_quiet_step ( fail ))); refine wpQuiet_nil ?_; rintro _ ⟨nx, rfl⟩
    go_wp2_with fail
    go_at_call 62
    refine (zdj _ V.objs S.objs ((HH.out.rep.objs.off (Off.setRow w b _) (fun hl h => HH.out.apart (Or.inl (by rw [← h]; exact zbn HH.out.rep.objs hl)))).grow grI) hSO).mono ?_
    rintro e' w' ⟨so, rfl, hO, _, hg⟩
    have hJ2 := (zg4 (b := b) (cs := hoA { V with list := upd (upd V.list dz s1) dz s2 } S.num rest) HI2.out (fun k hk => by have := (HF2.out k hk).1; simp only [zac, zaa] at this; omega)).grow (Grow.trans grI hg)
    have hJ1 := (zg4 (b := b) (cs := hoA { V with list := upd (upd V.list dz s1) dz s2 } S.num rest) HI1.out (fun k hk => by have := (HF1.out k hk).1; omega)).grow (Grow.trans grI hg)
    have hb2 : ∀ k, s2.owns k → w.heap.size + 1 ≤ k ∧ k < w'.heap.size := (fun k hk => ⟨by have := (HF2.out k hk).1; simp only [zac, zaa] at this; omega, Nat.lt_of_lt_of_le (HF2.out k hk).2 (Nat.le_trans (by simp only [zac, zaa, size_setRow, Ext.and, Array.size_append]; omega) hg.size)⟩)
    have hb1 : ∀ k, s1.owns k → w.heap.size + 1 ≤ k ∧ k < w'.heap.size := (fun k hk => ⟨(HF1.out k hk).1, Nat.lt_of_lt_of_le (HF1.out k hk).2 (Nat.le_trans (by simp only [zac, zaa, size_setRow, Ext.and, Array.size_append]; omega) hg.size)⟩)
    have hd2 : ∀ k j, s2.owns k → so.owns j → k < j := (fun k j hk hj => Nat.lt_of_lt_of_le (HF2.out k hk).2 (Nat.le_trans (by simp only [zac, zaa, size_setRow, Ext.and, Array.size_append]; omega) (hO.lt j hj).1))
    have hd1 : ∀ k j, s1.owns k → so.owns j → k < j := (fun k j hk hj => Nat.lt_of_lt_of_le (HF1.out k hk).2 (Nat.le_trans (by simp only [zac, zaa, size_setRow, Ext.and, Array.size_append]; omega) (hO.lt j hj).1))
    have hbo : ∀ k, so.owns k → w.heap.size + 1 ≤ k ∧ k < w'.heap.size := (fun k hk => ⟨Nat.le_trans (by simp only [zac, zaa, size_setRow, Ext.and, Array.size_append]; omega) (hO.lt k hk).1, (hO.lt k hk).2⟩)
    obtain ⟨p, rfl⟩ : Grow ((w.setRow b (hoA { V with list := upd (upd V.list dz s1) dz s2 } S.num rest)).alloc (.cells (cellsOf e) 90)) w' := Grow.trans grI hg
    have HO := Lib.hid hO
    have HJ1 := Lib.hid hJ1
    have HJ2 := Lib.hid hJ2
    have HB1 := Lib.hid hb1
    have HB2 := Lib.hid hb2
    have HBO := Lib.hid hbo
    have HD1 := Lib.hid hd1
    have HD2 := Lib.hid hd2
    clear hO hJ1 hJ2 hb1 hb2 hbo hd1 hd2 hg
    have hO3 := HO.out.apart (b := b) (w' := ((w.setRow b (hoA { objs := so, list := upd (upd V.list dz s1) dz s2 } S.num rest)).alloc (.cells (cellsOf e) 90)).plus p) (by repeat (first | exact Off.setRow2 _ _ _ _ | exact Off.setRow _ _ _ | refine Off.plus ?_ _ | refine Off.alloc ?_ _)) (fun k hk => by have := (HBO.out k hk).1; omega)
    have R5 : Rows' (((w.setRow b (hoA { objs := so, list := upd (upd V.list dz s1) dz s2 } S.num rest)).alloc (.cells (cellsOf e) 90)).plus p) so 18 S.objs := hO3.rows (by omega) HH.out.rep.objs.wid
    have hob := zbn R5 (by omega)
    have hge : ¬ so.b < w.heap.size + 1 := by have := (HBO.out _ hob).1; omega
    have hge2 : ¬ so.b < ((w.setRow b (hoA { objs := so, list := upd (upd V.list dz s1) dz s2 } S.num rest)).alloc (.cells (cellsOf e) 90)).heap.size := by rw [zaa, size_setRow]; exact hge
    have hson : so.n = S.objs.length := R5.len
    have hfar : ∀ q, zc8 ((w.setRow b (hoA { objs := so, list := upd (upd V.list dz s1) dz s2 } S.num rest)).alloc (.cells (cellsOf e) 90)) (p.and q) so.b (so.o + a * 18 + 3) = some (I (gt (rowAt S.objs a) 3)) := fun q => by
     have := (R5.grow (⟨q, rfl⟩ : Grow _ ((((w.setRow b (hoA { objs := so, list := upd (upd V.list dz s1) dz s2 } S.num rest)).alloc (.cells (cellsOf e) 90)).plus p).plus q))).cell a 3 hA (by omega)
     rw [zad, zd6, if_neg hge2] at this
     exact this
    have hfrz : ∀ q, zjf ((w.setRow b (hoA { objs := so, list := upd (upd V.list dz s1) dz s2 } S.num rest)).alloc (.cells (cellsOf e) 90)) (p.and q) so.b (so.o + a * 18 + 3) = false := fun q => by
     have := ((hO3.grow (⟨q, rfl⟩ : Grow _ ((((w.setRow b (hoA { objs := so, list := upd (upd V.list dz s1) dz s2 } S.num rest)).alloc (.cells (cellsOf e) 90)).plus p).plus q))).room.there (a * 18 + 3) (by have := R5.cap; omega)).2
     rw [zad, ← Nat.add_assoc, zjq, if_neg hge2] at this
     exact this
    have HR5 := Lib.hid R5
    clear hO3 R5 hge2
    go_wp2_with fail
    refine zat [0, 1, 2, 3, 4, 5, 6, 7, 8, 9] 10 [] (by kernel_rfl) (by kernel_rfl) ?_; simp only [zby, List.getElem?_cons_zero, List.getElem?_cons_succ]; (repeat (go_big_quiet_step ( fail ))); refine wpQuiet_nil ?_; rintro _ ⟨nx, rfl⟩
    go_wp2_with fail
    go_ret
    refine ⟨rfl, zk2 HH.out a dz c dz ei hA _ p _ so s1 s2 (by rw [HMT.out]; exact HJ2.out) (fun hn => HJ1.out) HR5.out (fun k hk => ?_) (fun k hk => ?_) (fun k hk => ?_) HD1.out HD2.out⟩
    · have := HBO.out k hk; simp only [zac, zaa, size_setRow] at this; exact this
    · have := HB1.out k hk; simp only [zac, zaa, size_setRow] at this; exact this
    · have := HB2.out k hk; simp only [zac, zaa, size_setRow] at this; exact this
  · have hmt : zbz S bz c dz = S.list dz := by unfold zbz; rw [if_neg hdb]
    rw [hmt] at hE
    have HE := Lib.hid hE
    have HLE : Hid ((S.list dz).length ≤ 1048576) := HS.out.list dz hd'
    have HMT := Lib.hid hmt
    have hdb2 : ((dz : Int) == (bz : Int)) = false := by simp; omega
    clear hE hmt
    go_wp2_with (go_at_call 186; refine (zky _ (V.list dz) (S.list dz) ei (a : Int) ((HH.out.rep.list dz hd').grow grI) HE.out HLE.out).mono ?_; rintro e' w' ⟨s2, rfl, hI2, hf2, n2, rfl⟩; (try simp only [zad] at hI2 hf2); have HI2 := Lib.hid hI2; have HF2 := Lib.hid hf2; clear hI2 hf2)
    refine zat [0, 1, 2, 3, 4, 5, 6] 7 [] (by kernel_rfl) (by kernel_rfl) ?_; simp only [zby, List.getElem?_cons_zero, List.getElem?_cons_succ]; (repeat (go_big_quiet_step ( fail ))); refine wpQuiet_nil ?_; rintro _ ⟨nx, rfl⟩
    go_wp2_with fail
    refine zat [0, 1, 2, 3, 4, 5, 6] 7 [] (by kernel_rfl) (by kernel_rfl) ?_; simp only [zby, List.getElem?_cons_zero, List.getElem?_cons_succ]; (repeat (go_big_quiet_step ( fail ))); refine wpQuiet_nil ?_; rintro _ ⟨nx, rfl⟩
    go_wp2_with fail
    go_at_call 62
    refine (zdj _ V.objs S.objs ((HH.out.rep.objs.off (Off.setRow w b _) (fun hl h => HH.out.apart (Or.inl (by rw [← h]; exact zbn HH.out.rep.objs hl)))).grow grI) hSO).mono ?_
    rintro e' w' ⟨so, rfl, hO, _, hg⟩
    have hJ2 := (zg4 (b := b) (cs := hoA { V with list := upd (upd V.list bz s1) dz s2 } S.num rest) HI2.out (fun k hk => by have := (HF2.out k hk).1; simp only [zac, zaa] at this; omega)).grow (Grow.trans grI hg)
    have hJ1 := (zg4 (b := b) (cs := hoA { V with list := upd (upd V.list bz s1) dz s2 } S.num rest) HI1.out (fun k hk => by have := (HF1.out k hk).1; omega)).grow (Grow.trans grI hg)
    have hb2 : ∀ k, s2.owns k → w.heap.size + 1 ≤ k ∧ k < w'.heap.size := (fun k hk => ⟨by have := (HF2.out k hk).1; simp only [zac, zaa] at this; omega, Nat.lt_of_lt_of_le (HF2.out k hk).2 (Nat.le_trans (by simp only [zac, zaa, size_setRow, Ext.and, Array.size_append]; omega) hg.size)⟩)
    have hb1 : ∀ k, s1.owns k → w.heap.size + 1 ≤ k ∧ k < w'.heap.size := (fun k hk => ⟨(HF1.out k hk).1, Nat.lt_of_lt_of_le (HF1.out k hk).2 (Nat.le_trans (by simp only [zac, zaa, size_setRow, Ext.and, Array.size_append]; omega) hg.size)⟩)
    have hd2 : ∀ k j, s2.owns k → so.owns j → k < j := (fun k j hk hj => Nat.lt_of_lt_of_le (HF2.out k hk).2 (Nat.le_trans (by simp only [zac, zaa, size_setRow, Ext.and, Array.size_append]; omega) (hO.lt j hj).1))
    have hd1 : ∀ k j, s1.owns k → so.owns j → k < j := (fun k j hk hj => Nat.lt_of_lt_of_le (HF1.out k hk).2 (Nat.le_trans (by simp only [zac, zaa, size_setRow, Ext.and, Array.size_append]; omega) (hO.lt j hj).1))
    have hbo : ∀ k, so.owns k → w.heap.size + 1 ≤ k ∧ k < w'.heap.size := (fun k hk => ⟨Nat.le_trans (by simp only [zac, zaa, size_setRow, Ext.and, Array.size_append]; omega) (hO.lt k hk).1, (hO.lt k hk).2⟩)
    obtain ⟨p, rfl⟩ : Grow ((w.setRow b (hoA { V with list := upd (upd V.list bz s1) dz s2 } S.num rest)).alloc (.cells (cellsOf e) 90)) w' := Grow.trans grI hg
    have HO := Lib.hid hO
    have HJ1 := Lib.hid hJ1
    have HJ2 := Lib.hid hJ2
    have HB1 := Lib.hid hb1
    have HB2 := Lib.hid hb2
    have HBO := Lib.hid hbo
    have HD1 := Lib.hid hd1
    have HD2 := Lib.hid hd2
    clear hO hJ1 hJ2 hb1 hb2 hbo hd1 hd2 hg
    have hO3 := HO.out.apart (b := b) (w' := ((w.setRow b (hoA { objs := so, list := upd (upd V.list bz s1) dz s2 } S.num rest)).alloc (.cells (cellsOf e) 90)).plus p) (by repeat (first | exact Off.setRow2 _ _ _ _ | exact Off.setRow _ _ _ | refine Off.plus ?_ _ | refine Off.alloc ?_ _)) (fun k hk => by have := (HBO.out k hk).1; omega)
    have R5 : Rows' (((w.setRow b (hoA { objs := so, list := upd (upd V.list bz s1) dz s2 } S.num rest)).alloc (.cells (cellsOf e) 90)).plus p) so 18 S.objs := hO3.rows (by omega) HH.out.rep.objs.wid
    have hob := zbn R5 (by omega)
    have hge : ¬ so.b < w.heap.size + 1 := by have := (HBO.out _ hob).1; omega
    have hge2 : ¬ so.b < ((w.setRow b (hoA { objs := so, list := upd (upd V.list bz s1) dz s2 } S.num rest)).alloc (.cells (cellsOf e) 90)).heap.size := by rw [zaa, size_setRow]; exact hge
    have hson : so.n = S.objs.length := R5.len
    have hfar : ∀ q, zc8 ((w.setRow b (hoA { objs := so, list := upd (upd V.list bz s1) dz s2 } S.num rest)).alloc (.cells (cellsOf e) 90)) (p.and q) so.b (so.o + a * 18 + 3) = some (I (gt (rowAt S.objs a) 3)) := fun q => by
     have := (R5.grow (⟨q, rfl⟩ : Grow _ ((((w.setRow b (hoA { objs := so, list := upd (upd V.list bz s1) dz s2 } S.num rest)).alloc (.cells (cellsOf e) 90)).plus p).plus q))).cell a 3 hA (by omega)
     rw [zad, zd6, if_neg hge2] at this
     exact this
    have hfrz : ∀ q, zjf ((w.setRow b (hoA { objs := so, list := upd (upd V.list bz s1) dz s2 } S.num rest)).alloc (.cells (cellsOf e) 90)) (p.and q) so.b (so.o + a * 18 + 3) = false := fun q => by
     have := ((hO3.grow (⟨q, rfl⟩ : Grow _ ((((w.setRow b (hoA { objs := so, list := upd (upd V.list bz s1) dz s2 } S.num rest)).alloc (.cells (cellsOf e) 90)).plus p).plus q))).room.there (a * 18 + 3) (by have := R5.cap; omega)).2
     rw [zad, ← Nat.add_assoc, zjq, if_neg hge2] at this
     exact this
    have HR5 := Lib.hid R5
    clear hO3 R5 hge2
    go_wp2_with fail
    refine zat [0, 1, 2, 3, 4, 5, 6, 7, 8, 9] 10 [] (by kernel_rfl) (by kernel_rfl) ?_; simp only [zby, List.getElem?_cons_zero, List.getElem?_cons_succ]; (repeat (go_big_quiet_step ( fail ))); refine wpQuiet_nil ?_; rintro _ ⟨nx, rfl⟩
    go_wp2_with fail
    go_ret
    refine ⟨rfl, zk2 HH.out a bz c dz ei hA _ p _ so s1 s2 (by rw [HMT.out]; exact HJ2.out) (fun hn => HJ1.out) HR5.out (fun k hk => ?_) (fun k hk => ?_) (fun k hk => ?_) HD1.out HD2.out⟩
    · have := HBO.out k hk; simp only [zac, zaa, size_setRow] at this; exact this
    · have := HB1.out k hk; simp only [zac, zaa, size_setRow] at this; exact this
    · have := HB2.out k hk; simp only [zac, zaa, size_setRow] at this; exact this
end Go.Proofs.YthfalocligkamaaGreatDoor
namespace Go.Proofs.YthfalocligkamaaGreatDoor
open Go Go.RowKit
attribute [local go_sem ↓] Go.wp_at_zero Go.wp_at_succ
set_option maxRecDepth 100000 in
set_option maxHeartbeats 2000000 in
theorem zs1 (S : St) (V : SV) (b : Nat) (rest : Array Value) (e : List Int) (a bz c dz ei : Nat) (E : MoveEv e a bz c dz ei) (w : World) (H : Host w b V S rest) (hS : Small S) (hA : a < S.objs.length) (hC : c < (S.list bz).length) (hx : gt (S.list bz) c = a) (hE : (zbz S bz c dz).length < ei) :
 Calls Tryz.prog 162 #[.pointer (some ⟨b, 0, none⟩), .agg (cellsOf e)] w fun r w' => r = .returned (errV 1) ∧ Grow w w' := by
 have hN := H.rep.objs.len
 have HH := Lib.hid H
 obtain ⟨he, q1, q2, q3, q4, q5, hb', hd'⟩ := E
 have hlb := hS.list bz hb'
 have hSO := hS.objs
 have hlB := (H.rep.list bz hb').len
 have hbI : (bz : Int) < 11 := by omega
 have hbJ : (0 : Int) ≤ (bz : Int) := by omega
 have hcell := zaf (H).free (H).blk; have hfz := zah (H).free; have hset := zag (H).free (H).blk; have hblk := (H).blk; have hfree := (H).free; have hlt := (H).lt; have hne1 : ¬ b = (w).heap.size := (by omega); have hne2 : ¬ (w).heap.size = b := (by omega)
 have HS := Lib.hid hS
 clear H hS
 have hlen : ¬ ((S.objs.length : Int) ≤ (a : Int)) := by omega
 have hdI : (dz : Int) < 11 := by omega
 have hdJ : (0 : Int) ≤ (dz : Int) := by omega
 have aI : (a : Int) < S.objs.length := by omega
 have aJ : (0 : Int) ≤ (a : Int) := by omega
 by_cases hdb : dz = bz
 · subst hdb
   have hno : ∀ s1 : Sl, s1.n = ((S.list dz).eraseIdx c).length → inR (ei : Int) (s1.n + 1) = false := fun s1 h => by
    have h2 : ((S.list dz).eraseIdx c).length < ei := by unfold zbz at hE; rw [if_pos rfl] at hE; exact hE
    simp [inR]; omega
   have HNO := Lib.hid hno
   clear hno hE
   go_enter Tryz.func162, Tryz.ntmps162
   go_wp2_with fail
   refine zab (by kernel_rfl) (by kernel_rfl) ?_; (repeat (go_big_quiet_step ( fail ))); refine wpQuiet_nil ?_; rintro _ ⟨nx, rfl⟩
   go_wp2_with fail
   go_region_with (go_at_call 185; refine (zf2 _ (V.list dz) (S.list dz) c ((HH.out.rep.list dz hb').grow grI) hC hlb).mono ?_; rintro e' w' ⟨s1, rfl, hI1, hf1, n1, rfl⟩; rw [hx]; have hn1 := Lib.hid hI1.len; clear hI1 hf1)
   all_goals
    go_wp2_with fail
    refine zab (by kernel_rfl) (by kernel_rfl) ?_; (repeat (go_big_quiet_step ( fail ))); refine wpQuiet_nil ?_; rintro _ ⟨nx, rfl⟩
    go_wp2_with (go_at_call 186; refine (zm8 _ s1 _ _ (HNO.out s1 hn1.out)).mono ?_; rintro e' w' ⟨rfl, hww⟩; subst w')
    go_ret
    exact ⟨rfl, grI⟩
 · have hno : inR (ei : Int) ((V.list dz).n + 1) = false := by
    have h2 : (S.list dz).length < ei := by unfold zbz at hE; rw [if_neg hdb] at hE; exact hE
    have h3 := (HH.out.rep.list dz hd').len
    simp [inR]; omega
   have hdb2 : ((dz : Int) == (bz : Int)) = false := by simp; omega
   clear hE
   go_enter Tryz.func162, Tryz.ntmps162
   go_wp2_with fail
   refine zab (by kernel_rfl) (by kernel_rfl) ?_; (repeat (go_big_quiet_step ( fail ))); refine wpQuiet_nil ?_; rintro _ ⟨nx, rfl⟩
   go_wp2_with fail
   go_region_with (go_at_call 185; refine (zf2 _ (V.list bz) (S.list bz) c ((HH.out.rep.list bz hb').grow grI) hC hlb).mono ?_; rintro e' w' ⟨s1, rfl, hI1, hf1, n1, rfl⟩; rw [hx]; have hn1 := Lib.hid hI1.len; clear hI1 hf1)
   all_goals
    go_wp2_with fail
    refine zab (by kernel_rfl) (by kernel_rfl) ?_; (repeat (go_big_quiet_step ( fail ))); refine wpQuiet_nil ?_; rintro _ ⟨nx, rfl⟩
    go_wp2_with (go_at_call 186; refine (zm8 _ (V.list dz) _ _ hno).mono ?_; rintro e' w' ⟨rfl, hww⟩; subst w')
    go_ret
    exact ⟨rfl, grI⟩
end Go.Proofs.YthfalocligkamaaGreatDoor
namespace Go.Proofs.YthfalocligkamaaGreatDoor
open Go Go.RowKit
def DoPost (w : World) (b : Nat) (V : SV) (rest : Array Value) : Except Int St → Ending → World → Prop
 | .error n, e, w' => e = .returned (errV n) ∧ Grow w w'
 | .ok S', e, w' => e = .returned .nilIface ∧ Done w b V rest S' w'
theorem Done.mono {w w1 w' : World} {b : Nat} {V : SV} {S' : St} {rest : Array Value} (h : Done w1 b V rest S' w') (g : Grow w w1) (hf : w.free b = true) : Done w b V rest S' w' := by
 obtain ⟨V', hp, hr, hu⟩ := h
 have hlt := zje hf
 refine ⟨V', ?_, hr, fun k hk => ?_⟩
 · obtain ⟨x, rfl⟩ := g
   refine Put.of_grow (Grow.trans ?_ hp)
   rw [zpx, if_pos hlt]
   exact grI
 · rcases hu k hk with h | h
   · exact Or.inl h
   · exact Or.inr ⟨Nat.le_trans g.size h.1, h.2⟩
theorem DoPost.mono {w w1 w' : World} {b : Nat} {V : SV} {rest : Array Value} {r : Except Int St} {e : Ending} (h : DoPost w1 b V rest r e w') (g : Grow w w1) (hf : w.free b = true) : DoPost w b V rest r e w' := by
 cases r with
 | error n => exact ⟨h.1, g.trans h.2⟩
 | ok S' => exact ⟨h.1, h.2.mono g hf⟩
theorem DoPost.returned {w w' : World} {b : Nat} {V : SV} {rest : Array Value} {r : Except Int St} {e : Ending} (h : DoPost w b V rest r e w') : ∃ v, e = .returned v := by
 cases r with
 | error n => exact ⟨_, h.1⟩
 | ok S' => exact ⟨_, h.1⟩
theorem zr7 (S : St) (V : SV) (b : Nat) (rest : Array Value) (e : List Int) (he : e.length = 6) (w : World) (H : Host w b V S rest) (hS : Small S) :
 Calls Tryz.prog 160 #[.pointer (some ⟨b, 0, none⟩), .agg (cellsOf e)] w (DoPost w b V rest (zgj S e)) := by
 unfold zgj
 by_cases h : 400 ≤ S.objs.length
 · rw [if_pos h]; exact zov S V b rest e w H h
 · rw [if_neg h]; exact zvr S V b rest e he w H hS (by omega)
theorem ztb (S : St) (V : SV) (b : Nat) (rest : Array Value) (e : List Int) (he : e.length = 6) (w : World) (H : Host w b V S rest) (hS : Small S) :
 Calls Tryz.prog 161 #[.pointer (some ⟨b, 0, none⟩), .agg (cellsOf e)] w (DoPost w b V rest (zhz S e)) := by
 unfold zhz
 by_cases h0 : 0 < S.objs.length
 · obtain ⟨m, hm⟩ : ∃ m, S.objs.length = m + 1 := ⟨S.objs.length - 1, by omega⟩
   by_cases h1 : 0 < (S.list 10).length
   · obtain ⟨k, hk⟩ : ∃ k, (S.list 10).length = k + 1 := ⟨(S.list 10).length - 1, by omega⟩
     have em : S.objs.length - 1 = m := by omega
     have ek : (S.list 10).length - 1 = k := by omega
     rw [em, ek]
     by_cases h2 : gt (S.list 10) k = (m : Int)
     · by_cases h3 : rowAt S.objs m = zdt e
       · rw [if_pos ⟨h0, h1, by omega, h3⟩]
         exact zpq S V b rest e he w H hS m k hm hk h2 h3
       · rw [if_neg (fun h => h3 h.2.2.2)]
         exact zl8 S V b rest e he w H hS m k hm hk h2 h3
     · rw [if_neg (fun h => h2 (by have := h.2.2.1; omega))]
       exact znq S V b rest e he w H hS m k hm hk h2
   · rw [if_neg (fun h => h1 h.2.1)]
     exact znp S V b rest e he w H hS m hm (by omega)
 · rw [if_neg (fun h => h0 h.1)]
   exact zpp S V b rest e he w H hS (by omega)
theorem z2m (S : St) (V : SV) (b : Nat) (rest : Array Value) (e : List Int) (a bz c dz ei : Nat) (E : MoveEv e a bz c dz ei) (w : World) (H : Host w b V S rest) (hS : Small S) :
 Calls Tryz.prog 162 #[.pointer (some ⟨b, 0, none⟩), .agg (cellsOf e)] w (DoPost w b V rest (zhx S a bz c dz ei)) := by
 unfold zhx
 by_cases hA : S.objs.length ≤ a
 · rw [if_pos hA]; exact z2n S V b rest e a bz c dz ei E w H hS hA
 · rw [if_neg hA]
   by_cases hC : c < (S.list bz).length
   · by_cases hx : gt (S.list bz) c = a
     · rw [if_neg (fun h => h ⟨hC, hx⟩)]
       by_cases hE : (zbz S bz c dz).length < ei
       · rw [if_pos hE]; exact zs1 S V b rest e a bz c dz ei E w H hS (by omega) hC hx hE
       · rw [if_neg hE]; exact z7x S V b rest e a bz c dz ei E w H hS (by omega) hC hx (by omega)
     · rw [if_pos (fun h => hx h.2)]; exact zs0 S V b rest e a bz c dz ei E w H hS (by omega) hC hx
   · rw [if_pos (fun h => hC h.1)]; exact z2o S V b rest e a bz c dz ei E w H hS (by omega) (by omega)
theorem yav (V : SV) (b : Nat) (rest : Array Value) (e : List Int) (he : e.length = 6) (w : World) (hc : evCheck e ≠ 0) :
 Calls Tryz.prog 139 #[.pointer (some ⟨b, 0, none⟩), .agg (cellsOf e)] w (DoPost w b V rest (.error (evCheck e))) := by
 have hv : errV (evCheck e) = .iface 66 (.int .i64 (evCheck e)) := by unfold errV; rw [if_neg hc]
 have hck := fun W => zbv e he W
 rw [hv] at hck
 have HV := Lib.hid hv
 have HC := Lib.hid hck
 clear hv hck hc
 show Calls _ _ _ _ fun r w' => r = .returned (errV (evCheck e)) ∧ Grow w w'
 rw [HV.out]
 generalize evCheck e = n at *
 go_enter Tryz.func139, Tryz.ntmps139
 go_wp2_with (go_at_call 119; refine (HC.out _).mono ?_; rintro e' w' ⟨rfl, nx, rfl⟩)
 go_ret
 exact ⟨rfl, grI⟩
set_option maxRecDepth 100000 in
set_option maxHeartbeats 1000000 in
theorem z6u (S : St) (V : SV) (b : Nat) (rest : Array Value) (e : List Int) (he : e.length = 6) (w : World) (H : Host w b V S rest) (hS : Small S) (hc : evCheck e = 0) (hk : gt e 0 = 0) :
 Calls Tryz.prog 139 #[.pointer (some ⟨b, 0, none⟩), .agg (cellsOf e)] w (DoPost w b V rest (zgj S e)) := by
 have hck := fun W => zbv e he W
 rw [hc, za4] at hck
 have HC := Lib.hid hck
 have HH := Lib.hid H
 have HS := Lib.hid hS
 have hcell := zaf (H).free (H).blk; have hfz := zah (H).free; have hset := zag (H).free (H).blk; have hblk := (H).blk; have hfree := (H).free; have hlt := (H).lt; have hne1 : ¬ b = (w).heap.size := (by omega); have hne2 : ¬ (w).heap.size = b := (by omega)
 have HF := Lib.hid hfree
 clear hck hc H hS
 go_enter Tryz.func139, Tryz.ntmps139
 go_wp2_with (first | (go_at_call 119; refine (HC.out _).mono ?_; rintro e' w' ⟨rfl, nx, rfl⟩) | (go_at_call 160; refine (zr7 S V b rest e he _ (HH.out.grow grI) HS.out).mono ?_; rintro r w' hD; obtain ⟨v, rfl⟩ := hD.returned; have HD := Lib.hid hD; clear hD))
 go_ret
 exact HD.out.mono grI HF.out
set_option maxRecDepth 100000 in
set_option maxHeartbeats 1000000 in
theorem zvu (S : St) (V : SV) (b : Nat) (rest : Array Value) (e : List Int) (he : e.length = 6) (w : World) (H : Host w b V S rest) (hS : Small S) (hc : evCheck e = 0) (hk : gt e 0 = 5) :
 Calls Tryz.prog 139 #[.pointer (some ⟨b, 0, none⟩), .agg (cellsOf e)] w (DoPost w b V rest (zhz S e)) := by
 have hck := fun W => zbv e he W
 rw [hc, za4] at hck
 have HC := Lib.hid hck
 have HH := Lib.hid H
 have HS := Lib.hid hS
 have hcell := zaf (H).free (H).blk; have hfz := zah (H).free; have hset := zag (H).free (H).blk; have hblk := (H).blk; have hfree := (H).free; have hlt := (H).lt; have hne1 : ¬ b = (w).heap.size := (by omega); have hne2 : ¬ (w).heap.size = b := (by omega)
 have HF := Lib.hid hfree
 clear hck hc H hS
 go_enter Tryz.func139, Tryz.ntmps139
 go_wp2_with (first | (go_at_call 119; refine (HC.out _).mono ?_; rintro e' w' ⟨rfl, nx, rfl⟩) | (go_at_call 161; refine (ztb S V b rest e he _ (HH.out.grow grI) HS.out).mono ?_; rintro r w' hD; obtain ⟨v, rfl⟩ := hD.returned; have HD := Lib.hid hD; clear hD))
 go_ret
 exact HD.out.mono grI HF.out
set_option maxRecDepth 100000 in
set_option maxHeartbeats 1000000 in
theorem z6v (S : St) (V : SV) (b : Nat) (rest : Array Value) (e : List Int) (he : e.length = 6) (w : World) (H : Host w b V S rest) (hS : Small S) (hc : evCheck e = 0) (hk : gt e 0 = 1) (a bz c dz ei : Nat) (E : MoveEv e a bz c dz ei) :
 Calls Tryz.prog 139 #[.pointer (some ⟨b, 0, none⟩), .agg (cellsOf e)] w (DoPost w b V rest (zhx S a bz c dz ei)) := by
 have hck := fun W => zbv e he W
 rw [hc, za4] at hck
 have HC := Lib.hid hck
 have HH := Lib.hid H
 have HS := Lib.hid hS
 have hcell := zaf (H).free (H).blk; have hfz := zah (H).free; have hset := zag (H).free (H).blk; have hblk := (H).blk; have hfree := (H).free; have hlt := (H).lt; have hne1 : ¬ b = (w).heap.size := (by omega); have hne2 : ¬ (w).heap.size = b := (by omega)
 have HF := Lib.hid hfree
 clear hck hc H hS
 go_enter Tryz.func139, Tryz.ntmps139
 have HE := Lib.hid E
 clear E
 go_wp2_with (first | (go_at_call 119; refine (HC.out _).mono ?_; rintro e' w' ⟨rfl, nx, rfl⟩) | (go_at_call 162; refine (z2m S V b rest e a bz c dz ei HE.out _ (HH.out.grow grI) HS.out).mono ?_; rintro r w' hD; obtain ⟨v, rfl⟩ := hD.returned; have HD := Lib.hid hD; clear hD))
 go_ret
 exact HD.out.mono grI HF.out
theorem zq0 {w W : World} {b i : Nat} {v : Value} {cs : Array Value} (g : Grow w W) (hf : w.free b = true) (h : w.blk b = cs) : Grow (w.setRow b (cs.setIfInBounds i v)) (W.setCell ⟨b, i, none⟩ v) := by
 obtain ⟨x, rfl⟩ := g
 rw [zfo w x b i v (zje hf), zag hf h]
 exact ⟨x, rfl⟩
theorem zqj {w w' : World} {b : Nat} {V : SV} {S : St} {rest : Array Value} (H : Host w b V S rest) (num' : Nat → Int) (g : Grow (w.setRow b (hoA V num' rest)) w') : Done w b V rest { S with num := num' } w' := by
 have hp : Put b (hoA V num' rest) w w' := g
 have hr := H.rep.kept hp.kept (fun k hk h => H.apart (by rw [← h]; exact hk))
 exact ⟨V, g, ⟨hr.objs, hr.list⟩, fun k hk => Or.inl hk⟩
set_option maxRecDepth 100000 in
set_option maxHeartbeats 1000000 in
theorem zvt (S : St) (V : SV) (b : Nat) (rest : Array Value) (e : List Int) (he : e.length = 6) (w : World) (H : Host w b V S rest) (_hS : Small S) (hc : evCheck e = 0) (hk : gt e 0 = 3) (p f : Nat) (h1 : gt e 1 = p) (h2 : gt e 2 = f) (hp : p < 2) (hf : f < 9) :
 Calls Tryz.prog 139 #[.pointer (some ⟨b, 0, none⟩), .agg (cellsOf e)] w (DoPost w b V rest ((if S.num (p * 9 + f) ≠ gt e 3 then .error 20 else .ok (S.setNum (p * 9 + f) (gt e 4))))) := by
 have hck := fun W => zbv e he W
 rw [hc, za4] at hck
 have HC := Lib.hid hck
 have HH := Lib.hid H
 have hcell := zaf (H).free (H).blk; have hfz := zah (H).free; have hset := zag (H).free (H).blk; have hblk := (H).blk; have hfree := (H).free; have hlt := (H).lt; have hne1 : ¬ b = (w).heap.size := (by omega); have hne2 : ¬ (w).heap.size = b := (by omega)
 have HF := Lib.hid hfree
 clear hck hc H
 have i1 : (p : Int) < 2 := by omega
 have i2 : (0 : Int) ≤ (p : Int) := by omega
 have i3 : (f : Int) < 9 := by omega
 have i4 : (0 : Int) ≤ (f : Int) := by omega
 have hat : (hoA V S.num rest)[12 + p * 9 + f]? = some (I (S.num (p * 9 + f))) := by rw [Nat.add_assoc]; exact zbm _ _ _ _ (by omega)
 by_cases hx : S.num (p * 9 + f) = gt e 3
 · have hset2 : (hoA V S.num rest).setIfInBounds (12 + p * 9 + f) (.int .i64 (gt e 4)) = hoA V (upd S.num (p * 9 + f) (gt e 4)) rest := by rw [Nat.add_assoc]; exact zkv _ _ _ _ _ (by omega)
   have HX := Lib.hid hx
   have HS2 := Lib.hid hset2
   have HB := Lib.hid hblk
   have HE : Hid ((if S.num (p * 9 + f) ≠ gt e 3 then .error 20 else .ok (S.setNum (p * 9 + f) (gt e 4)) : Except Int St) = .ok (S.setNum (p * 9 + f) (gt e 4))) := by rw [Hid, if_neg (fun h => h hx)]
   clear hx hset2
   rw [HE.out]
   clear HE
   go_enter Tryz.func139, Tryz.ntmps139
   go_wp2_with (go_at_call 119; refine (HC.out _).mono ?_; rintro e' w' ⟨rfl, nx, rfl⟩)
   refine zat [0, 1, 2, 3, 4, 5, 6, 7, 8, 9] 10 [11] (by kernel_rfl) (by kernel_rfl) ?_; simp only [zby, List.getElem?_cons_zero, List.getElem?_cons_succ]; (repeat (go_big_quiet_step ( fail ))); refine wpQuiet_nil ?_; rintro _ ⟨nx, rfl⟩
   go_wp2_with (go_at_call 163; refine (zpz e he b (12 + p * 9 + f) _ _ (by go_simp) (by go_simp) (by go_simp) HX.out).mono ?_; rintro r w' ⟨rfl, hG⟩; have HG := Lib.hid (Grow.trans (zq0 grI HF.out HB.out) hG); clear hG)
   go_ret
   have hG := HG.out
   rw [HS2.out] at hG
   exact ⟨rfl, zqj HH.out _ hG⟩
 · have HX := Lib.hid hx
   have HE : Hid ((if S.num (p * 9 + f) ≠ gt e 3 then .error 20 else .ok (S.setNum (p * 9 + f) (gt e 4)) : Except Int St) = .error 20) := by rw [Hid, if_pos hx]
   clear hx
   rw [HE.out]
   clear HE
   go_enter Tryz.func139, Tryz.ntmps139
   go_wp2_with (go_at_call 119; refine (HC.out _).mono ?_; rintro e' w' ⟨rfl, nx, rfl⟩)
   refine zat [0, 1, 2, 3, 4, 5, 6, 7, 8, 9] 10 [11] (by kernel_rfl) (by kernel_rfl) ?_; simp only [zby, List.getElem?_cons_zero, List.getElem?_cons_succ]; (repeat (go_big_quiet_step ( fail ))); refine wpQuiet_nil ?_; rintro _ ⟨nx, rfl⟩
   go_wp2_with (go_at_call 163; refine (zyi e he b (12 + p * 9 + f) _ _ (by go_simp) (by go_simp) (by go_simp) HX.out).mono ?_; rintro r w' ⟨rfl, nq, rfl⟩)
   go_ret
   exact ⟨rfl, grI⟩
set_option maxRecDepth 100000 in
set_option maxHeartbeats 1000000 in
theorem z6t (S : St) (V : SV) (b : Nat) (rest : Array Value) (e : List Int) (he : e.length = 6) (w : World) (H : Host w b V S rest) (_hS : Small S) (hc : evCheck e = 0) (hk : gt e 0 = 4) (f : Nat) (h2 : gt e 2 = f) (hf : f < 7) :
 Calls Tryz.prog 139 #[.pointer (some ⟨b, 0, none⟩), .agg (cellsOf e)] w (DoPost w b V rest ((if S.num (18 + f) ≠ gt e 3 then .error 20 else .ok (S.setNum (18 + f) (gt e 4))))) := by
 have hck := fun W => zbv e he W
 rw [hc, za4] at hck
 have HC := Lib.hid hck
 have HH := Lib.hid H
 have hcell := zaf (H).free (H).blk; have hfz := zah (H).free; have hset := zag (H).free (H).blk; have hblk := (H).blk; have hfree := (H).free; have hlt := (H).lt; have hne1 : ¬ b = (w).heap.size := (by omega); have hne2 : ¬ (w).heap.size = b := (by omega)
 have HF := Lib.hid hfree
 clear hck hc H
 have i3 : (f : Int) < 7 := by omega
 have i4 : (0 : Int) ≤ (f : Int) := by omega
 have hat : (hoA V S.num rest)[30 + f]? = some (I (S.num (18 + f))) := by rw [show 30 + f = 12 + (18 + f) by omega]; exact zbm _ _ _ _ (by omega)
 by_cases hx : S.num (18 + f) = gt e 3
 · have hset2 : (hoA V S.num rest).setIfInBounds (30 + f) (.int .i64 (gt e 4)) = hoA V (upd S.num (18 + f) (gt e 4)) rest := by rw [show 30 + f = 12 + (18 + f) by omega]; exact zkv _ _ _ _ _ (by omega)
   have HX := Lib.hid hx
   have HS2 := Lib.hid hset2
   have HB := Lib.hid hblk
   have HE : Hid ((if S.num (18 + f) ≠ gt e 3 then .error 20 else .ok (S.setNum (18 + f) (gt e 4)) : Except Int St) = .ok (S.setNum (18 + f) (gt e 4))) := by rw [Hid, if_neg (fun h => h hx)]
   clear hx hset2
   rw [HE.out]
   clear HE
   go_enter Tryz.func139, Tryz.ntmps139
   go_wp2_with (go_at_call 119; refine (HC.out _).mono ?_; rintro e' w' ⟨rfl, nx, rfl⟩)
   refine zat [0, 1, 2, 3, 4, 5, 6] 7 [8] (by kernel_rfl) (by kernel_rfl) ?_; simp only [zby, List.getElem?_cons_zero, List.getElem?_cons_succ]; (repeat (go_big_quiet_step ( fail ))); refine wpQuiet_nil ?_; rintro _ ⟨nx, rfl⟩
   go_wp2_with (go_at_call 163; refine (zpz e he b (30 + f) _ _ (by go_simp) (by go_simp) (by go_simp) HX.out).mono ?_; rintro r w' ⟨rfl, hG⟩; have HG := Lib.hid (Grow.trans (zq0 grI HF.out HB.out) hG); clear hG)
   go_ret
   have hG := HG.out
   rw [HS2.out] at hG
   exact ⟨rfl, zqj HH.out _ hG⟩
 · have HX := Lib.hid hx
   have HE : Hid ((if S.num (18 + f) ≠ gt e 3 then .error 20 else .ok (S.setNum (18 + f) (gt e 4)) : Except Int St) = .error 20) := by rw [Hid, if_pos hx]
   clear hx
   rw [HE.out]
   clear HE
   go_enter Tryz.func139, Tryz.ntmps139
   go_wp2_with (go_at_call 119; refine (HC.out _).mono ?_; rintro e' w' ⟨rfl, nx, rfl⟩)
   refine zat [0, 1, 2, 3, 4, 5, 6] 7 [8] (by kernel_rfl) (by kernel_rfl) ?_; simp only [zby, List.getElem?_cons_zero, List.getElem?_cons_succ]; (repeat (go_big_quiet_step ( fail ))); refine wpQuiet_nil ?_; rintro _ ⟨nx, rfl⟩
   go_wp2_with (go_at_call 163; refine (zyi e he b (30 + f) _ _ (by go_simp) (by go_simp) (by go_simp) HX.out).mono ?_; rintro r w' ⟨rfl, nq, rfl⟩)
   go_ret
   exact ⟨rfl, grI⟩
end Go.Proofs.YthfalocligkamaaGreatDoor
namespace Go.Proofs.YthfalocligkamaaGreatDoor
open Go Go.RowKit
theorem zvv {w w' : World} {b : Nat} {V : SV} {S : St} {rest : Array Value} (H : Host w b V S rest) (objs : List (List Int)) (so : Sl) (g : Grow (w.setRow b (hoA { V with objs := so } S.num rest)) w') (R : Rows' w' so 18 objs) (hso : ∀ k, so.owns k → w.heap.size ≤ k ∧ k < w'.heap.size) :
 Done w b V rest { S with objs := objs } w' := by
 have hp : Put b (hoA { V with objs := so } S.num rest) w w' := g
 have hr := H.rep.kept hp.kept (fun k hk h => H.apart (by rw [← h]; exact hk))
 refine ⟨{ V with objs := so }, g, ⟨R, hr.list⟩, ?_⟩
 rintro k (hk | ⟨z, hz, hk⟩)
 · exact Or.inr (hso k hk)
 · exact Or.inl (Or.inr ⟨z, hz, hk⟩)
set_option maxRecDepth 100000 in
set_option maxHeartbeats 2000000 in
theorem yaw (S : St) (V : SV) (b : Nat) (rest : Array Value) (e : List Int) (he : e.length = 6) (w : World) (H : Host w b V S rest) (hS : Small S) (hc : evCheck e = 0) (hk : gt e 0 = 2) (a f : Nat) (h1 : gt e 1 = a) (h2 : gt e 2 = f) (hf : f < 18) :
 Calls Tryz.prog 139 #[.pointer (some ⟨b, 0, none⟩), .agg (cellsOf e)] w (DoPost w b V rest (if S.objs.length ≤ a then .error 4 else if gt (rowAt S.objs a) f ≠ gt e 3 then .error 20 else .ok (S.setObj a f (gt e 4)))) := by
 have hck := fun W => zbv e he W
 rw [hc, za4] at hck
 have HC := Lib.hid hck
 have HH := Lib.hid H
 have hN := H.rep.objs.len
 have hSO := hS.objs
 have hcell := zaf (H).free (H).blk; have hfz := zah (H).free; have hset := zag (H).free (H).blk; have hblk := (H).blk; have hfree := (H).free; have hlt := (H).lt; have hne1 : ¬ b = (w).heap.size := (by omega); have hne2 : ¬ (w).heap.size = b := (by omega)
 have HF := Lib.hid hfree
 clear hck hc H hS
 have i3 : (f : Int) < 18 := by omega
 have i4 : (0 : Int) ≤ (f : Int) := by omega
 by_cases hA : S.objs.length ≤ a
 · rw [if_pos hA]
   have hlen : ((S.objs.length : Int) ≤ (a : Int)) := by omega
   go_enter Tryz.func139, Tryz.ntmps139
   go_wp2_with (go_at_call 119; refine (HC.out _).mono ?_; rintro e' w' ⟨rfl, nx, rfl⟩)
   refine zab (by kernel_rfl) (by kernel_rfl) ?_; (repeat (go_big_quiet_step ( fail ))); refine wpQuiet_nil ?_; rintro _ ⟨nx, rfl⟩
   go_wp2_with fail
   go_ret
   exact ⟨rfl, grI⟩
 rw [if_neg hA]
 have hlen : ¬ ((S.objs.length : Int) ≤ (a : Int)) := by omega
 have i1 : (a : Int) < S.objs.length := by omega
 have i2 : (0 : Int) ≤ (a : Int) := by omega
 by_cases hx : gt (rowAt S.objs a) f = gt e 3
 · rw [if_neg (fun h => h hx)]
   have HX := Lib.hid hx
   clear hx
   go_enter Tryz.func139, Tryz.ntmps139
   go_wp2_with (go_at_call 119; refine (HC.out _).mono ?_; rintro e' w' ⟨rfl, nx, rfl⟩)
   refine zab (by kernel_rfl) (by kernel_rfl) ?_; (repeat (go_big_quiet_step ( fail ))); refine wpQuiet_nil ?_; rintro _ ⟨nx, rfl⟩
   go_wp2_with fail
   go_at_call 62
   refine (zdj _ V.objs S.objs (HH.out.rep.objs.grow grI) hSO).mono ?_
   rintro e' w' ⟨so, rfl, hO, _, hg⟩
   have hbo : ∀ k, so.owns k → w.heap.size + 1 ≤ k ∧ k < w'.heap.size := fun k hk => ⟨Nat.le_trans (by simp only [zac, zaa]; omega) (hO.lt k hk).1, (hO.lt k hk).2⟩
   obtain ⟨p, rfl⟩ : Grow (w.alloc (.cells (cellsOf e) 90)) w' := Grow.trans grI hg
   have hR5 : Rows' ((w.alloc (.cells (cellsOf e) 90)).plus p) so 18 S.objs := hO.rows (by omega) HH.out.rep.objs.wid
   have hson : so.n = S.objs.length := hR5.len
   have HOB := Lib.hid (zbn hR5 (by omega))
   have HO := Lib.hid hO
   have HR5 := Lib.hid hR5
   have HBO := Lib.hid hbo
   clear hO hR5 hbo hg
   go_wp2_with fail
   refine zat [0, 1, 2, 3, 4, 5, 6, 7] 8 [9] (by kernel_rfl) (by kernel_rfl) ?_; simp only [zby, List.getElem?_cons_zero, List.getElem?_cons_succ]; (repeat (go_big_quiet_step ( fail ))); refine wpQuiet_nil ?_; rintro _ ⟨nx, rfl⟩
   go_wp2_with (go_at_call 163; refine (zpz e he so.b (so.o + a * 18 + f) _ _ (zbd ((HR5.out.grow grI).cell a f (by omega) hf)).1 ((HR5.out.grow grI).cell a f (by omega) hf) (by rw [Nat.add_assoc]; exact ((HO.out.grow grI).room.there (a * 18 + f) (by have := HR5.out.cap; rw [HR5.out.len] at this; omega)).2) HX.out).mono ?_; rintro r w' ⟨rfl, hG⟩; have hR6 := ((HR5.out.grow grI).setObj a f (gt e 4) (by omega) hf).grow hG; obtain ⟨p2, rfl⟩ : Grow (w.alloc (.cells (cellsOf e) 90)) w' := Grow.trans ((Kept.setCell (own := fun k => k = so.b) (Grow.kept _ grI) so.b _ _ (fun _ => rfl)).grow (fun k hk h => by have h : k = so.b := h; have := (HBO.out _ HOB.out).1; rw [zaa] at hk; omega)) hG; have HR6 := Lib.hid hR6; have HSZ := Lib.hid hG.size; clear hR6 hG)
   go_ret
   refine ⟨rfl, zvv HH.out _ so grI ((HR6.out.off (b := b) (W' := ((w.setRow b (hoA { V with objs := so } S.num rest)).alloc (.cells (cellsOf e) 90)).plus p2) (by repeat (first | exact Off.setRow2 _ _ _ _ | exact Off.setRow _ _ _ | refine Off.plus ?_ _ | refine Off.alloc ?_ _)) (fun _ h => by have := (HBO.out _ HOB.out).1; omega)).grow grI) (fun k hk => ?_)⟩
   have h1 := HBO.out k hk
   have h2 := HSZ.out
   simp only [World.setCell, Array.size_modify, zac, zaa, size_setRow, Ext.and, Array.size_append] at h1 h2 ⊢
   exact ⟨by omega, by omega⟩
 · rw [if_pos hx]
   have HX := Lib.hid hx
   clear hx
   go_enter Tryz.func139, Tryz.ntmps139
   go_wp2_with (go_at_call 119; refine (HC.out _).mono ?_; rintro e' w' ⟨rfl, nx, rfl⟩)
   refine zab (by kernel_rfl) (by kernel_rfl) ?_; (repeat (go_big_quiet_step ( fail ))); refine wpQuiet_nil ?_; rintro _ ⟨nx, rfl⟩
   go_wp2_with fail
   go_at_call 62
   refine (zdj _ V.objs S.objs (HH.out.rep.objs.grow grI) hSO).mono ?_
   rintro e' w' ⟨so, rfl, hO, _, hg⟩
   have hbo : ∀ k, so.owns k → w.heap.size + 1 ≤ k ∧ k < w'.heap.size := fun k hk => ⟨Nat.le_trans (by simp only [zac, zaa]; omega) (hO.lt k hk).1, (hO.lt k hk).2⟩
   obtain ⟨p, rfl⟩ : Grow (w.alloc (.cells (cellsOf e) 90)) w' := Grow.trans grI hg
   have hR5 : Rows' ((w.alloc (.cells (cellsOf e) 90)).plus p) so 18 S.objs := hO.rows (by omega) HH.out.rep.objs.wid
   have hson : so.n = S.objs.length := hR5.len
   have HOB := Lib.hid (zbn hR5 (by omega))
   have HO := Lib.hid hO
   have HR5 := Lib.hid hR5
   have HBO := Lib.hid hbo
   clear hO hR5 hbo hg
   go_wp2_with fail
   refine zat [0, 1, 2, 3, 4, 5, 6, 7] 8 [9] (by kernel_rfl) (by kernel_rfl) ?_; simp only [zby, List.getElem?_cons_zero, List.getElem?_cons_succ]; (repeat (go_big_quiet_step ( fail ))); refine wpQuiet_nil ?_; rintro _ ⟨nx, rfl⟩
   go_wp2_with (go_at_call 163; refine (zyi e he so.b (so.o + a * 18 + f) _ _ (zbd ((HR5.out.grow grI).cell a f (by omega) hf)).1 ((HR5.out.grow grI).cell a f (by omega) hf) (by rw [Nat.add_assoc]; exact ((HO.out.grow grI).room.there (a * 18 + f) (by have := HR5.out.cap; rw [HR5.out.len] at this; omega)).2) HX.out).mono ?_; rintro r w' ⟨rfl, nq, rfl⟩)
   go_ret
   exact ⟨rfl, grI⟩
theorem yau (S : St) (V : SV) (b : Nat) (rest : Array Value) (e : List Int) (he : e.length = 6) (w : World) (H : Host w b V S rest) (hS : Small S) :
 Calls Tryz.prog 139 #[.pointer (some ⟨b, 0, none⟩), .agg (cellsOf e)] w (DoPost w b V rest (zen S e)) := by
 unfold zen
 by_cases hc : evCheck e = 0
 · rw [if_neg (fun h => h hc)]
   obtain ⟨c1, c2, c3⟩ : inR (gt e 0) 6 = true ∧ zce e = true ∧ zbr e = true := by
    unfold evCheck at hc
    by_cases c1 : inR (gt e 0) 6 = false
    · rw [if_pos c1] at hc; cases hc
    rw [if_neg c1] at hc
    by_cases c2 : zce e = false
    · rw [if_pos c2] at hc; cases hc
    rw [if_neg c2] at hc
    by_cases c3 : zbr e = false
    · rw [if_pos c3] at hc; cases hc
    exact ⟨by simpa using c1, by simpa using c2, by simpa using c3⟩
   have k6 : 0 ≤ gt e 0 ∧ gt e 0 < 6 := by simpa [inR] using c1
   by_cases k0 : gt e 0 = 0
   · rw [if_pos k0]; exact z6u S V b rest e he w H hS hc k0
   rw [if_neg k0]
   by_cases k5 : gt e 0 = 5
   · rw [if_pos k5]; exact zvu S V b rest e he w H hS hc k5
   rw [if_neg k5]
   unfold zbr at c3
   rw [if_neg (by omega)] at c3
   by_cases k1 : gt e 0 = 1
   · rw [if_pos k1]
     rw [if_pos k1] at c3
     have c4 : 0 ≤ gt e 1 ∧ (0 ≤ gt e 2 ∧ gt e 2 < 11) ∧ (0 ≤ gt e 4 ∧ gt e 4 < 11) ∧ 0 ≤ gt e 3 ∧ 0 ≤ gt e 5 := by
      simp only [inR, Bool.and_eq_true, decide_eq_true_eq] at c3; omega
     exact z6v S V b rest e he w H hS hc k1 _ _ _ _ _ ⟨he, by omega, by omega, by omega, by omega, by omega, by omega, by omega⟩
   rw [if_neg k1]
   rw [if_neg k1] at c3
   by_cases k2 : gt e 0 = 2
   · rw [if_pos k2]
     rw [if_pos k2] at c3
     have c4 : 0 ≤ gt e 1 ∧ (0 ≤ gt e 2 ∧ gt e 2 < 18) := by
      simp only [inR, Bool.and_eq_true, decide_eq_true_eq] at c3; omega
     have := yaw S V b rest e he w H hS hc k2 (gt e 1).toNat (gt e 2).toNat (by omega) (by omega) (by omega)
     have hle : ((S.objs.length : Int) ≤ gt e 1) ↔ S.objs.length ≤ (gt e 1).toNat := by omega
     simp only [hle]
     exact this
   rw [if_neg k2]
   rw [if_neg k2] at c3
   by_cases k3 : gt e 0 = 3
   · rw [if_pos k3] at c3
     have c4 : (0 ≤ gt e 1 ∧ gt e 1 < 2) ∧ (0 ≤ gt e 2 ∧ gt e 2 < 9) := by
      simp only [inR, Bool.and_eq_true, decide_eq_true_eq] at c3; omega
     have := zvt S V b rest e he w H hS hc k3 (gt e 1).toNat (gt e 2).toNat (by omega) (by omega) (by omega) (by omega)
     simp only [if_pos k3]
     exact this
   · rw [if_neg k3] at c3
     have c4 : 0 ≤ gt e 2 ∧ gt e 2 < 7 := by
      simp only [inR, Bool.and_eq_true, decide_eq_true_eq] at c3; omega
     have := z6t S V b rest e he w H hS hc (by omega) (gt e 2).toNat (by omega) (by omega)
     simp only [if_neg k3]
     exact this
 · rw [if_pos hc]
   exact yav V b rest e he w hc
end Go.Proofs.YthfalocligkamaaGreatDoor
namespace Go.Proofs.YthfalocligkamaaGreatDoor
open Go Go.RowKit
structure SmallN (S : St) (n : Nat) : Prop where
 objs : S.objs.length ≤ n
 list : ∀ z, z < 11 → (S.list z).length ≤ n
theorem SmallN.small {S : St} {n : Nat} (h : SmallN S n) (hn : n ≤ 1048576) : Small S := ⟨by have := h.objs; omega, fun z hz => by have := h.list z hz; omega⟩
theorem SmallN.mono {S : St} {n m : Nat} (h : SmallN S n) (hn : n ≤ m) : SmallN S m := ⟨by have := h.objs; omega, fun z hz => by have := h.list z hz; omega⟩
theorem zhp {f : Nat → List Int} {y n : Nat} {l : List Int} (h : ∀ z, z < 11 → (f z).length ≤ n) (hl : l.length ≤ n) : ∀ z, z < 11 → (upd f y l z).length ≤ n := fun z hz => by
 unfold upd; split
 · exact hl
 · exact h z hz
theorem zr9 {S S' : St} {e : List Int} {n : Nat} (h : SmallN S n) (hd : zen S e = .ok S') : SmallN S' (n + 1) := by
 have h1 : SmallN S (n + 1) := h.mono (Nat.le_succ n)
 unfold zen at hd
 by_cases c : evCheck e ≠ 0
 · rw [if_pos c] at hd; cases hd
 rw [if_neg c] at hd
 have hck : evCheck e = 0 := by simpa using c
 by_cases k0 : gt e 0 = 0
 · rw [if_pos k0] at hd
   unfold zgj at hd
   by_cases c2 : 400 ≤ S.objs.length
   · rw [if_pos c2] at hd; cases hd
   rw [if_neg c2] at hd
   cases hd
   exact ⟨by simp; exact h.objs, zhp h1.list (by rw [List.length_append]; have := h.list 10 (by omega); simp; omega)⟩
 rw [if_neg k0] at hd
 by_cases k5 : gt e 0 = 5
 · rw [if_pos k5] at hd
   unfold zhz at hd
   split at hd
   · cases hd
     exact ⟨by simp; have := h.objs; omega, zhp h1.list (by rw [List.length_take]; have := h.list 10 (by omega); omega)⟩
   · cases hd
 rw [if_neg k5] at hd
 by_cases k1 : gt e 0 = 1
 · rw [if_pos k1] at hd
   have hrange : (gt e 2).toNat < 11 ∧ (gt e 4).toNat < 11 := by
    unfold evCheck at hck
    by_cases c1 : inR (gt e 0) 6 = false
    · rw [if_pos c1] at hck; cases hck
    rw [if_neg c1] at hck
    by_cases c2 : zce e = false
    · rw [if_pos c2] at hck; cases hck
    rw [if_neg c2] at hck
    by_cases c3 : zbr e = false
    · rw [if_pos c3] at hck; cases hck
    have c3 : zbr e = true := by simpa using c3
    unfold zbr at c3
    rw [if_neg (by omega), if_pos k1] at c3
    simp only [inR, Bool.and_eq_true, decide_eq_true_eq] at c3
    omega
   unfold zhx at hd
   split at hd
   · cases hd
   split at hd
   · cases hd
   split at hd
   · cases hd
   rename_i hA hC hE
   cases hd
   have hb := h.list _ hrange.1
   have hd := h.list _ hrange.2
   refine ⟨by simp [zbt]; exact h1.objs, zhp (zhp h1.list (by have := List.length_eraseIdx_le (S.list (gt e 2).toNat) (gt e 3).toNat; omega)) ?_⟩
   have : (zbz S (gt e 2).toNat (gt e 3).toNat (gt e 4).toNat).length ≤ n := by
    unfold zbz; split
    · have := List.length_eraseIdx_le (S.list (gt e 2).toNat) (gt e 3).toNat; omega
    · exact hd
   rw [List.length_insertIdx]; split <;> omega
 rw [if_neg k1] at hd
 by_cases k2 : gt e 0 = 2
 · rw [if_pos k2] at hd
   split at hd
   · cases hd
   split at hd
   · cases hd
   cases hd
   exact ⟨by simp [St.setObj]; exact h1.objs, h1.list⟩
 · rw [if_neg k2] at hd
   simp only at hd
   generalize (if gt e 0 = 3 then (gt e 1).toNat * 9 + (gt e 2).toNat else 18 + (gt e 2).toNat) = q at hd
   split at hd
   · cases hd
   cases hd
   exact ⟨h1.objs, h1.list⟩
theorem zfx {S : St} {e : List Int} {n : Int} (hd : zen S e = .error n) : n ≠ 0 := by
 unfold zen at hd
 by_cases c : evCheck e ≠ 0
 · rw [if_pos c] at hd; cases hd; exact c
 rw [if_neg c] at hd
 unfold zgj zhz zhx at hd
 simp only at hd
 generalize (if gt e 0 = 3 then (gt e 1).toNat * 9 + (gt e 2).toNat else 18 + (gt e 2).toNat) = q at hd
 (repeat' split at hd) <;> cases hd <;> decide
@[go_sem] theorem zzo (w : World) (s : Sl) (q : IntKind) (i : Int) (h0 : 0 ≤ i) (h1 : i < s.n) : (Instr.indexAt 62 s.val (.int q i)).run Tryz.prog w = .ok (.pointer (some ⟨s.b, s.o + i.toNat * 6, none⟩)) w :=
 zbh w Tryz.underlying62 (fun w => (by kernel_rfl : (sizeOf 90).run Tryz.prog w = .ok 6 w)) s q i h0 h1
@[go_sem ↓] theorem z6i (ρ : Operand → Value) (dst : Option Tmp) (parts : Array (Nat × Operand)) (ty : TypeId) (pos : String) (after : Array Edge) (guard : Option (Nat × Bool)) :
 execOp ρ { dst, op := .build 29 parts, type := ty, pos, after, guard } = za0 29 (parts.map fun (i, x) => (i, ρ x)) := rfl
@[go_sem] theorem zuo (w : World) : (za0 29 #[]).run Tryz.prog w = .ok (.value (.agg (stA SV.zero fun _ => 0))) w := by kernel_rfl
end Go.Proofs.YthfalocligkamaaGreatDoor
