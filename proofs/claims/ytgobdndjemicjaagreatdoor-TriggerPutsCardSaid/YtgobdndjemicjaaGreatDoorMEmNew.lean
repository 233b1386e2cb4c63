/- The walk of emit's New. -/
import Derived.Test.YtgobdndjemicjaaGreatDoorMEm
import Derived.Test.YtgobdndjemicjaaGreatDoorMPutN
namespace Go.Proofs.YtgobdndjemicjaaGreatDoor
open Go Go.RowKit Go.Shelf
def Em.new (S : St) (draws : List Int) : Em := Em.fail ⟨S, draws, [], [], checkN S⟩ (if 4096 < draws.length then 19 else 0)
theorem ztw {S : St} (m : Nat) (h : zqf S (m : Int) = false) : SmallN S (m + 10) := by
 unfold zqf zjg at h
 rw [Bool.or_eq_false_iff] at h
 refine ⟨by have := h.1; simp at this; omega, fun z hz => ?_⟩
 have h2 := h.2
 rw [List.any_eq_false] at h2
 have := h2 z (List.mem_range.2 hz)
 simp at this; omega
theorem zep (S : St) : Em.new S [] = ⟨S, [], [], [], checkN S⟩ := by
 unfold Em.new
 rw [show (if 4096 < ([] : List Int).length then (19 : Int) else 0) = 0 from rfl]
 by_cases h : checkN S = 0
 · rw [h]; rfl
 · unfold Em.fail
   exact if_neg h
theorem zru {S : St} (h : checkN S = 0) : Em.new S [] = ⟨S, [], [], [], 0⟩ := by
 unfold Em.new
 rw [h, if_neg (by simp)]
 exact if_pos rfl
@[go_sem ↓] theorem z1g (ρ : Operand → Value) (dst : Option Tmp) (parts : Array (Nat × Operand)) (ty : TypeId) (pos : String) (after : Array Edge) (guard : Option (Nat × Bool)) :
 execOp ρ { dst, op := .build 92 parts, type := ty, pos, after, guard } = za2 92 (parts.map fun (i, x) => (i, ρ x)) := rfl
set_option maxRecDepth 100000 in
@[go_sem] theorem zuu (w : World) (V : SV) (num : Nat → Int) (s : Sl) (n : Int) : (za2 92 #[(0, .agg (stA V num)), (1, s.val), (4, errV n)]).run Tryz.prog w = .ok (.value (.agg (hoA V num (emR s .nil .nil n)))) w := by
 unfold emR
 by_cases hn : n = 0
 · subst hn
   rw [zbf]
   cases s <;> kernel_rfl
 · rw [zat hn]
   cases s <;> kernel_rfl
theorem z1u {w : World} {x : Ext} {S : St} {draws : List Int} {V' : SV} {s2 : Sl} {base : Nat} {t t2 : TypeId} (n : Int) (hR : RepSt (w.plus x) V' S) (hU : ∀ k, V'.uses k → w.heap.size ≤ k ∧ k < (w.plus x).heap.size) (hD : Own (w.plus x) s2 t2 1 base (draws.map I)) (hb : w.heap.size ≤ base) :
 Emt ((w.plus x).alloc (.cells (hoA V' S.num (emR s2 .nil .nil n)) t)) (w.heap.size + x.objs.size) (zf2 (w.heap.size + x.objs.size) V' s2 .nil .nil) ⟨S, draws, [], [], n⟩ ∧ ∀ k, zf2 (w.heap.size + x.objs.size) V' s2 .nil .nil k → w.heap.size ≤ k := by
 have hs : (w.plus x).heap.size = w.heap.size + x.objs.size := zab w x
 have hg : Grow (w.plus x) ((w.plus x).alloc (.cells (hoA V' S.num (emR s2 .nil .nil n)) t)) := (Grow.refl _).alloc _
 refine ⟨⟨V', s2, .nil, .nil, ⟨⟨by rw [zct, if_pos hs.symm], by rw [zc6, if_pos hs.symm]; rfl, hR.grow hg, fun h => ?_, fun k hk => ?_⟩, (hD.grow hg).cells.ints, Rows'.nil _ _, Room.nil _ _, Rows'.nil _ _, Room.nil _ _, fun k hk => ((hD.grow hg).lt k hk).2, fun _ h => h.elim, fun _ h => h.elim, fun h => ?_, fun h => h, fun h => h, fun _ _ => ⟨fun h => h, fun h => h⟩, fun _ _ => ⟨fun h => h, fun h => h⟩, fun _ h => h.elim⟩, fun k => Iff.rfl⟩, fun k hk => ?_⟩
 · have := (hU _ h).2; omega
 · have := (hU _ hk).2; rw [zaa]; omega
 · have := (hD.lt _ h).2; omega
 · rcases hk with rfl | h | h | h | h
   · omega
   · exact (hU k h).1
   · have := (hD.lt k h).1; omega
   · exact h.elim
   · exact h.elim
set_option maxRecDepth 100000 in
set_option maxHeartbeats 4000000 in
theorem zxu (S : St) (V : SV) (w : World) (R : RepSt w V S) (hS : Small S) (GL : Glob w) (sl : Sl) (draws : List Int) (RD : Ints w sl draws) (hd : draws.length ≤ 1048576) :
 Calls Tryz.prog 15 #[.agg (stA V S.num), sl.val] w fun e w' => ∃ b own, e = .returned (.pointer (some ⟨b, 0, none⟩)) ∧ Emt w' b own (Em.new S draws) ∧ (∀ k, own k → w.heap.size ≤ k ∧ k < w'.heap.size) ∧ Grow w w' := by
 have HR := Lib.hid R
 have HS := Lib.hid hS
 have HG := Lib.hid GL
 have HRD := Lib.hid RD
 have hrc := fun W (g : Grow w W) => zud W sl draws (RD.grow g)
 unfold Em.new
 generalize (if 4096 < draws.length then (19 : Int) else 0) = m at *
 have HRC := Lib.hid hrc
 clear R hS GL RD hrc
 go_enter Tryz.func15, Tryz.ntmps15
 go_wp2_with fail
 go_region_law (first | (refine zak (by rfl) ?_; go_simp; go_at_call 45; refine (zll S V _ (HR.out.grow grI) HS.out).mono ?_; rintro e' w' ⟨V', rfl, hR', hu, nx, rfl⟩; have HR' := Lib.hid hR'; have HU := Lib.hid hu; clear hR' hu) | (refine zak (by rfl) ?_; go_simp; go_at_call 46; refine (zdz _ sl draws (HRD.out.grow grI) hd).mono ?_; rintro e' w' ⟨s2, rfl, hO, _, ny, rfl⟩; have HO := Lib.hid hO; clear hO) | (refine zak (by rfl) ?_; go_simp; go_at_call 47; refine (znq S V _ (HR.out.grow grI) HS.out (HG.out.grow grI)).mono ?_; rintro e' w' ⟨rfl, nz, rfl⟩))
 all_goals
  go_wp2_with (go_at_call 49; refine (HRC.out _ grI).mono ?_; rintro e' w' ⟨rfl, nc, rfl⟩)
  have h1 := HR'.out
  have h2 := HU.out
  have h3 := HO.out
  (try simp only [zad] at h1); (try simp only [zac] at h1)
  (try simp only [zad] at h2); (try simp only [zac] at h2)
  (try simp only [zad] at h3); (try simp only [zac] at h3)
  have g1 : Grow ((w.alloc (.cells (stA V S.num) 29)).plus nx.late) ((w.alloc (.cells (stA V S.num) 29)).plus ((nx.late.and ny).and nz)) := ⟨ny.and nz, by rw [zac, Ext.and_assoc]⟩
  have g2 : Grow ((w.alloc (.cells (stA V S.num) 29)).plus (nx.late.and ny)) ((w.alloc (.cells (stA V S.num) 29)).plus ((nx.late.and ny).and nz)) := ⟨nz, (zac _ _ _).symm⟩
  have h2b : ∀ k, V'.uses k → (w.alloc (.cells (stA V S.num) 29)).heap.size ≤ k ∧ k < ((w.alloc (.cells (stA V S.num) 29)).plus ((nx.late.and ny).and nz)).heap.size := fun k hk => ⟨(h2 k hk).1, Nat.lt_of_lt_of_le (h2 k hk).2 g1.size⟩
  obtain ⟨q1, q2⟩ := z1u (w := w.alloc (.cells (stA V S.num) 29)) (x := (nx.late.and ny).and nz) (t := 92) (checkN S) (h1.grow g1) h2b (h3.grow g2) (by simp only [zab]; omega)
  rw [zaa] at q1 q2
  have hGr : Grow w ((((w.alloc (.cells (stA V S.num) 29)).plus ((nx.late.and ny).and nz)).alloc (.cells (hoA V' S.num (emR s2 .nil .nil (checkN S))) 92)).plus nc) := grI
  have hq1 := q1.grow (w' := (((w.alloc (.cells (stA V S.num) 29)).plus ((nx.late.and ny).and nz)).alloc (.cells (hoA V' S.num (emR s2 .nil .nil (checkN S))) 92)).plus nc) ⟨nc, rfl⟩
  clear q1 h1 h2 h2b h3 g1 g2 HR' HU HO
  generalize (((w.alloc (.cells (stA V S.num) 29)).plus ((nx.late.and ny).and nz)).alloc (.cells (hoA V' S.num (emR s2 .nil .nil (checkN S))) 92)).plus nc = Wf at *
  generalize w.heap.size + 1 + ((nx.late.and ny).and nz).objs.size = b at *
  refine (zht _ b _ _ hq1 m).mono ?_
  rintro e' w3 ⟨rfl, own3, R3, K3, O3⟩
  have hlow : ∀ k, own3 k → w.heap.size ≤ k := fun k hk => by
   rcases O3 k hk with h | h
   · have := q2 k h; omega
   · have := hGr.size; omega
  have hgr3 : Grow w w3 := K3.grow_of hGr (fun k hk => by have := q2 k hk; omega)
  go_wp2_with fail
  go_ret
  exact ⟨_, own3, rfl, R3, fun k hk => ⟨hlow k hk, R3.lt k hk⟩, hgr3⟩
end Go.Proofs.YtgobdndjemicjaaGreatDoor
namespace Go.Proofs.YtgobdndjemicjaaGreatDoor
open Go Go.RowKit Go.Shelf
def ErrsAt (w : World) (m : Value) (n : Int) : Prop := ∀ W, Grow w W → Calls Tryz.prog 17 #[m] W fun e w' => e = .returned (errV n) ∧ Grow W w'
theorem ErrsAt.grow {w w' : World} {m : Value} {n : Int} (h : ErrsAt w m n) (g : Grow w w') : ErrsAt w' m n := fun W g' => h W (g.trans g')
theorem ze4 {w : World} {b : Nat} {own : Nat → Prop} {E : Em} (R : Emt w b own E) : ErrsAt w (.pointer (some ⟨b, 0, none⟩)) E.err := fun W g => zbd W b own E (R.grow g)
theorem zln (w : World) : ErrsAt w (.pointer none) 4 := fun W _ => by
 go_enter Tryz.func17, Tryz.ntmps17
 go_wp2_with fail
 go_ret
 exact ⟨by first | rfl | (rw [zat (by decide)]), grI⟩
theorem z1z (w : World) (m : Value) (n : Int) (hn : n ≠ 0) (H : ErrsAt w m n) (a b c : Int) :
 Calls Tryz.prog 69 #[m, .int .i64 a, .int .i64 b, .int .i64 c] w fun e w' => e = .returned (.tuple #[]) ∧ Grow w w' := by
 have HE := Lib.hid (show ∀ W, Grow w W → Calls Tryz.prog 17 #[m] W fun e w' => e = .returned (.iface 96 (.int .i64 n)) ∧ Grow W w' from fun W g => by have := H W g; rw [zat hn] at this; exact this)
 clear H hn
 go_enter Tryz.func69, Tryz.ntmps69
 go_wp2_with (go_at_call 17; refine (HE.out _ grI).mono ?_; rintro e' w' ⟨rfl, nx, rfl⟩)
 first | go_end0 | refine bodyPost_ret (results_none rfl _ _ _) rfl ?_
 exact ⟨rfl, grI⟩
theorem zw0 (w : World) (m : Value) (n : Int) (hn : n ≠ 0) (H : ErrsAt w m n) (a b : Int) :
 Calls Tryz.prog 52 #[m, .int .i64 a, .int .i64 b] w fun e w' => e = .returned (.tuple #[]) ∧ Grow w w' := by
 have HE := Lib.hid (show ∀ W, Grow w W → Calls Tryz.prog 17 #[m] W fun e w' => e = .returned (.iface 96 (.int .i64 n)) ∧ Grow W w' from fun W g => by have := H W g; rw [zat hn] at this; exact this)
 clear H hn
 go_enter Tryz.func52, Tryz.ntmps52
 go_wp2_with (go_at_call 17; refine (HE.out _ grI).mono ?_; rintro e' w' ⟨rfl, nx, rfl⟩)
 first | go_end0 | refine bodyPost_ret (results_none rfl _ _ _) rfl ?_
 exact ⟨rfl, grI⟩
theorem z1x (w : World) (m : Value) (n : Int) (hn : n ≠ 0) (H : ErrsAt w m n) (a b : Int) :
 Calls Tryz.prog 35 #[m, .int .i64 a, .int .i64 b] w fun e w' => e = .returned (.tuple #[]) ∧ Grow w w' := by
 have HE := Lib.hid (show ∀ W, Grow w W → Calls Tryz.prog 17 #[m] W fun e w' => e = .returned (.iface 96 (.int .i64 n)) ∧ Grow W w' from fun W g => by have := H W g; rw [zat hn] at this; exact this)
 clear H hn
 go_enter Tryz.func35, Tryz.ntmps35
 go_wp2_with (go_at_call 17; refine (HE.out _ grI).mono ?_; rintro e' w' ⟨rfl, nx, rfl⟩)
 first | go_end0 | refine bodyPost_ret (results_none rfl _ _ _) rfl ?_
 exact ⟨rfl, grI⟩
theorem zw1 (w : World) (m : Value) (n : Int) (hn : n ≠ 0) (H : ErrsAt w m n) (a b c : Int) :
 Calls Tryz.prog 71 #[m, .int .i64 a, .int .i64 b, .int .i64 c] w fun e w' => e = .returned (.int .i64 0) ∧ Grow w w' := by
 have HE := Lib.hid (show ∀ W, Grow w W → Calls Tryz.prog 17 #[m] W fun e w' => e = .returned (.iface 96 (.int .i64 n)) ∧ Grow W w' from fun W g => by have := H W g; rw [zat hn] at this; exact this)
 clear H hn
 go_enter Tryz.func71, Tryz.ntmps71
 go_wp2_with (go_at_call 17; refine (HE.out _ grI).mono ?_; rintro e' w' ⟨rfl, nx, rfl⟩)
 go_ret
 exact ⟨rfl, grI⟩
theorem zw2 (w : World) (m : Value) (n : Int) (hn : n ≠ 0) (H : ErrsAt w m n) :
 Calls Tryz.prog 21 #[m] w fun e w' => e = .returned (.slice none 0 0) ∧ Grow w w' := by
 have HE := Lib.hid (show ∀ W, Grow w W → Calls Tryz.prog 17 #[m] W fun e w' => e = .returned (.iface 96 (.int .i64 n)) ∧ Grow W w' from fun W g => by have := H W g; rw [zat hn] at this; exact this)
 clear H hn
 go_enter Tryz.func21, Tryz.ntmps21
 go_wp2_with (go_at_call 17; refine (HE.out _ grI).mono ?_; rintro e' w' ⟨rfl, nx, rfl⟩)
 go_ret
 exact ⟨rfl, grI⟩
set_option maxRecDepth 100000 in
theorem zlo (w : World) (m : Value) (n : Int) (hn : n ≠ 0) (H : ErrsAt w m n) :
 Calls Tryz.prog 18 #[m] w fun e w' => e = .returned (.agg (stA SV.zero fun _ => 0)) ∧ Grow w w' := by
 have HE := Lib.hid (show ∀ W, Grow w W → Calls Tryz.prog 17 #[m] W fun e w' => e = .returned (.iface 96 (.int .i64 n)) ∧ Grow W w' from fun W g => by have := H W g; rw [zat hn] at this; exact this)
 clear H hn
 go_enter Tryz.func18, Tryz.ntmps18
 go_wp2_with (go_at_call 17; refine (HE.out _ grI).mono ?_; rintro e' w' ⟨rfl, nx, rfl⟩)
 refine bodyPost_ret (zgf rfl _ _ (w.heap.size) rfl ?_) rfl ?_
 · go_simp
 · exact ⟨by go_simp, grI⟩
theorem zw4 (w : World) (v : Value) : Calls Tryz.prog 48 #[.pointer none, v] w fun e w' => e = .returned (.tuple #[]) ∧ Grow w w' := by
 go_enter Tryz.func48, Tryz.ntmps48
 go_wp2_with fail
 first | go_end0 | refine bodyPost_ret (results_none rfl _ _ _) rfl ?_
 exact ⟨rfl, grI⟩
end Go.Proofs.YtgobdndjemicjaaGreatDoor
namespace Go.Proofs.YtgobdndjemicjaaGreatDoor
open Go Go.RowKit Go.Shelf
@[go_sem] theorem zv3 (w : World) (b o : Nat) (h : (w.cell? ⟨b, o, none⟩).isSome = true) (hf : w.frozen? ⟨b, o, none⟩ = false) : (zas 55 (.pointer (some ⟨b, o, none⟩)) (.slice none 0 0)).run Tryz.prog w = .ok .skip (w.setCell ⟨b, o, none⟩ (.slice none 0 0)) :=
 zcj w b o 55 .nil (by kernel_rfl) h hf
theorem RepE.noPend {w : World} {b : Nat} {own : Nat → Prop} {V : SV} {sd se sp : Sl} {E : Em} (h : RepE w b V sd se sp E) (ho : ∀ k, own k ↔ zf2 b V sd se sp k) {w' : World} (g : Grow (w.setRow b (hoA V E.now.num (emR sd se .nil E.err))) w') : EPost w b own { E with pend := [] } w' := by
 have k1 : Kept (fun k => k = b) w (w.setRow b (hoA V E.now.num (emR sd se .nil E.err))) := (Kept.refl _ _).setRow b _ (fun _ => rfl)
 have r : RepE (w.setRow b (hoA V E.now.num (emR sd se .nil E.err))) b V sd se .nil { E with pend := [] } := by
  refine ⟨⟨by rw [za1 _ _ _ _ h.host.free, if_pos rfl], by rw [za7]; exact h.host.free, h.host.rep.kept k1 (fun k hk e => h.host.apart (by have e : k = b := e; rw [← e]; exact hk)), h.host.apart, fun k hk => by rw [size_setRow]; exact h.host.in' k hk⟩, ?_, ?_, ?_, Rows'.nil _ _, Room.nil _ _, ?_, ?_, fun _ hk => hk.elim, h.apD, h.apE, fun h => h, fun k hk => ⟨(h.apVE k hk).1, fun h => h⟩, fun k hk => ⟨(h.apDE k hk).1, fun h => h⟩, fun _ _ h => h⟩
  · exact h.drs.kept k1 (fun hl e => h.apD (by have e : sd.b = b := e; rw [← e]; exact zbk h.drs hl))
  · exact h.evs.kept k1 (fun hl e => h.apE (by have e : se.b = b := e; rw [← e]; exact zar h.evs hl))
  · exact h.evR.kept k1 (fun k hk e => h.apE (by have e : k = b := e; rw [← e]; exact hk))
  · exact fun k hk => by rw [size_setRow]; exact h.inD k hk
  · exact fun k hk => by rw [size_setRow]; exact h.inE k hk
 have k2 : Kept own w (w.setRow b (hoA V E.now.num (emR sd se .nil E.err))) := (Kept.refl _ _).setRow b _ (fun _ => (ho b).2 (Or.inl rfl))
 refine ⟨zf2 b V sd se .nil, ⟨V, sd, se, .nil, r.kept (g.kept (fun _ => False)) (fun _ _ h => h), fun _ => Iff.rfl⟩, k2.trans (o2 := fun _ => False) (g.kept _) (fun _ _ h => h.elim), fun k hk => Or.inl ((ho k).2 ?_)⟩
 rcases hk with h1 | h1 | h1 | h1 | h1
 · exact Or.inl h1
 · exact Or.inr (Or.inl h1)
 · exact Or.inr (Or.inr (Or.inl h1))
 · exact Or.inr (Or.inr (Or.inr (Or.inl h1)))
 · exact h1.elim
set_option maxRecDepth 100000 in
theorem zpc (w : World) (b : Nat) (own : Nat → Prop) (E : Em) (R : Emt w b own E) (he : E.err ≠ 0) :
 Calls Tryz.prog 78 #[.pointer (some ⟨b, 0, none⟩)] w fun e w' => e = .returned (.slice none 0 0) ∧ EPost w b own { E with pend := [] } w' := by
 have HP := Lib.hid (fun W (g : Grow w W) => zw2 W (.pointer (some ⟨b, 0, none⟩)) E.err he ((ze4 R).grow g))
 obtain ⟨V, sd, se, sp, hr, ho⟩ := R
 have hH := hr.host
 have hcell := zae (hH).free (hH).blk; have hfz := zag (hH).free; have hset := zah (hH).free (hH).blk; have hblk := (hH).blk; have hfree := (hH).free; have hlt := (hH).lt; have hne1 : ¬ b = (w).heap.size := (by omega); have hne2 : ¬ (w).heap.size = b := (by omega)
 have hs := hset 39 Sl.nil.val
 rw [zp5, show Sl.nil.val = Value.slice none 0 0 from rfl] at hs
 have hc : w.cell? ⟨b, 39, none⟩ = some sp.val := (zae hr.host.free hr.host.blk 39).trans (zn6 _ _ _ _ _ _)
 have HR := Lib.hid hr
 have HO := Lib.hid ho
 clear hr ho hH hblk hset hcell he
 go_enter Tryz.func78, Tryz.ntmps78
 go_wp2_with (go_at_call 21; refine (HP.out _ grI).mono ?_; rintro e' w' ⟨rfl, nx, rfl⟩)
 go_ret
 exact ⟨rfl, HR.out.noPend HO.out grI⟩
end Go.Proofs.YtgobdndjemicjaaGreatDoor
