/- The walk of emit's New. -/
import Derived.Test.YthfalocligkamaaGreatDoorMEm
import Derived.Test.YthfalocligkamaaGreatDoorMPutN
namespace Go.Proofs.YthfalocligkamaaGreatDoor
open Go Go.RowKit Go.Shelf
def Em.new (S : St) (draws : List Int) : Em := Em.fail ⟨S, draws, [], [], checkN S⟩ (if 4096 < draws.length then 19 else 0)
theorem zsz {S : St} (m : Nat) (h : zpe S (m : Int) = false) : SmallN S (m + 10) := by
 unfold zpe zif at h
 rw [Bool.or_eq_false_iff] at h
 refine ⟨by have := h.1; simp at this; omega, fun z hz => ?_⟩
 have h2 := h.2
 rw [List.any_eq_false] at h2
 have := h2 z (List.mem_range.2 hz)
 simp at this; omega
theorem z70 (S : St) : Em.new S [] = ⟨S, [], [], [], checkN S⟩ := by
 unfold Em.new
 rw [show (if 4096 < ([] : List Int).length then (19 : Int) else 0) = 0 from rfl]
 by_cases h : checkN S = 0
 · rw [h]; rfl
 · unfold Em.fail
   exact if_neg h
@[go_sem ↓] theorem z0h (ρ : Operand → Value) (dst : Option Tmp) (parts : Array (Nat × Operand)) (ty : TypeId) (pos : String) (after : Array Edge) (guard : Option (Nat × Bool)) :
 execOp ρ { dst, op := .build 82 parts, type := ty, pos, after, guard } = za0 82 (parts.map fun (i, x) => (i, ρ x)) := rfl
set_option maxRecDepth 100000 in
@[go_sem] theorem ztm (w : World) (V : SV) (num : Nat → Int) (s : Sl) (n : Int) : (za0 82 #[(0, .agg (stA V num)), (1, s.val), (4, errV n)]).run Tryz.prog w = .ok (.value (.agg (hoA V num (emR s .nil .nil n)))) w := by
 unfold emR
 by_cases hn : n = 0
 · subst hn
   rw [za4]
   cases s <;> kernel_rfl
 · rw [zap hn]
   cases s <;> kernel_rfl
theorem z0x {w : World} {x : Ext} {S : St} {draws : List Int} {V' : SV} {s2 : Sl} {base : Nat} {t t2 : TypeId} (n : Int) (hR : RepSt (w.plus x) V' S) (hU : ∀ k, V'.uses k → w.heap.size ≤ k ∧ k < (w.plus x).heap.size) (hD : Own (w.plus x) s2 t2 1 base (draws.map I)) (hb : w.heap.size ≤ base) :
 Emt ((w.plus x).alloc (.cells (hoA V' S.num (emR s2 .nil .nil n)) t)) (w.heap.size + x.objs.size) (zht (w.heap.size + x.objs.size) V' s2 .nil .nil) ⟨S, draws, [], [], n⟩ ∧ ∀ k, zht (w.heap.size + x.objs.size) V' s2 .nil .nil k → w.heap.size ≤ k := by
 have hs : (w.plus x).heap.size = w.heap.size + x.objs.size := zac w x
 have hg : Grow (w.plus x) ((w.plus x).alloc (.cells (hoA V' S.num (emR s2 .nil .nil n)) t)) := (Grow.refl _).alloc _
 refine ⟨⟨V', s2, .nil, .nil, ⟨⟨by rw [zeq, if_pos hs.symm], by rw [zkt, if_pos hs.symm]; rfl, hR.grow hg, fun h => ?_, fun k hk => ?_⟩, (hD.grow hg).cells.ints, Rows'.nil _ _, Room.nil _ _, Rows'.nil _ _, Room.nil _ _, fun k hk => ((hD.grow hg).lt k hk).2, fun _ h => h.elim, fun _ h => h.elim, fun h => ?_, fun h => h, fun h => h, fun _ _ => ⟨fun h => h, fun h => h⟩, fun _ _ => ⟨fun h => h, fun h => h⟩, fun _ h => h.elim⟩, fun k => Iff.rfl⟩, fun k hk => ?_⟩
 · have := (hU _ h).2; omega
 · have := (hU _ hk).2; rw [zaa]; omega
 · have := (hD.lt _ h).2; omega
 · rcases hk with rfl | h | h | h | h
   · omega
   · exact (hU k h).1
   · have := (hD.lt k h).1; omega
   · exact h.elim
   · exact h.elim
set_option maxRecDepth 100000 in
set_option maxHeartbeats 4000000 in
theorem z7y (S : St) (V : SV) (w : World) (R : RepSt w V S) (hS : Small S) (GL : Glob w) (sl : Sl) (draws : List Int) (RD : Ints w sl draws) (hd : draws.length ≤ 1048576) :
 Calls Tryz.prog 16 #[.agg (stA V S.num), sl.val] w fun e w' => ∃ b own, e = .returned (.pointer (some ⟨b, 0, none⟩)) ∧ Emt w' b own (Em.new S draws) ∧ (∀ k, own k → w.heap.size ≤ k ∧ k < w'.heap.size) ∧ Grow w w' := by
 have HR := Lib.hid R
 have HS := Lib.hid hS
 have HG := Lib.hid GL
 have HRD := Lib.hid RD
 have hrc := fun W (g : Grow w W) => zs8 W sl draws (RD.grow g)
 unfold Em.new
 generalize (if 4096 < draws.length then (19 : Int) else 0) = m at *
 have HRC := Lib.hid hrc
 clear R hS GL RD hrc
 go_enter Tryz.func16, Tryz.ntmps16
 go_wp2_with fail
 go_region_law (first | (refine zak (by rfl) ?_; go_simp; go_at_call 39; refine (zkr S V _ (HR.out.grow grI) HS.out).mono ?_; rintro e' w' ⟨V', rfl, hR', hu, nx, rfl⟩; have HR' := Lib.hid hR'; have HU := Lib.hid hu; clear hR' hu) | (refine zak (by rfl) ?_; go_simp; go_at_call 40; refine (zdi _ sl draws (HRD.out.grow grI) hd).mono ?_; rintro e' w' ⟨s2, rfl, hO, _, ny, rfl⟩; have HO := Lib.hid hO; clear hO) | (refine zak (by rfl) ?_; go_simp; go_at_call 32; refine (zgz S V _ (HR.out.grow grI) HS.out (HG.out.grow grI)).mono ?_; rintro e' w' ⟨rfl, nz, rfl⟩))
 all_goals
  go_wp2_with (go_at_call 41; refine (HRC.out _ grI).mono ?_; rintro e' w' ⟨rfl, nc, rfl⟩)
  have h1 := HR'.out
  have h2 := HU.out
  have h3 := HO.out
  (try simp only [zae] at h1); (try simp only [zad] at h1)
  (try simp only [zae] at h2); (try simp only [zad] at h2)
  (try simp only [zae] at h3); (try simp only [zad] at h3)
  have g1 : Grow ((w.alloc (.cells (stA V S.num) 29)).plus nx.late) ((w.alloc (.cells (stA V S.num) 29)).plus ((nx.late.and ny).and nz)) := ⟨ny.and nz, by rw [zad, Ext.and_assoc]⟩
  have g2 : Grow ((w.alloc (.cells (stA V S.num) 29)).plus (nx.late.and ny)) ((w.alloc (.cells (stA V S.num) 29)).plus ((nx.late.and ny).and nz)) := ⟨nz, (zad _ _ _).symm⟩
  have h2b : ∀ k, V'.uses k → (w.alloc (.cells (stA V S.num) 29)).heap.size ≤ k ∧ k < ((w.alloc (.cells (stA V S.num) 29)).plus ((nx.late.and ny).and nz)).heap.size := fun k hk => ⟨(h2 k hk).1, Nat.lt_of_lt_of_le (h2 k hk).2 g1.size⟩
  obtain ⟨q1, q2⟩ := z0x (w := w.alloc (.cells (stA V S.num) 29)) (x := (nx.late.and ny).and nz) (t := 82) (checkN S) (h1.grow g1) h2b (h3.grow g2) (by simp only [zac]; omega)
  rw [zaa] at q1 q2
  have hGr : Grow w ((((w.alloc (.cells (stA V S.num) 29)).plus ((nx.late.and ny).and nz)).alloc (.cells (hoA V' S.num (emR s2 .nil .nil (checkN S))) 82)).plus nc) := grI
  have hq1 := q1.grow (w' := (((w.alloc (.cells (stA V S.num) 29)).plus ((nx.late.and ny).and nz)).alloc (.cells (hoA V' S.num (emR s2 .nil .nil (checkN S))) 82)).plus nc) ⟨nc, rfl⟩
  clear q1 h1 h2 h2b h3 g1 g2 HR' HU HO
  generalize (((w.alloc (.cells (stA V S.num) 29)).plus ((nx.late.and ny).and nz)).alloc (.cells (hoA V' S.num (emR s2 .nil .nil (checkN S))) 82)).plus nc = Wf at *
  generalize w.heap.size + 1 + ((nx.late.and ny).and nz).objs.size = b at *
  refine (ze2 _ b _ _ hq1 m).mono ?_
  rintro e' w3 ⟨rfl, own3, R3, K3, O3⟩
  have hlow : ∀ k, own3 k → w.heap.size ≤ k := fun k hk => by
   rcases O3 k hk with h | h
   · have := q2 k h; omega
   · have := hGr.size; omega
  have hgr3 : Grow w w3 := K3.grow_of hGr (fun k hk => by have := q2 k hk; omega)
  go_wp2_with fail
  go_ret
  exact ⟨_, own3, rfl, R3, fun k hk => ⟨hlow k hk, R3.lt k hk⟩, hgr3⟩
end Go.Proofs.YthfalocligkamaaGreatDoor
namespace Go.Proofs.YthfalocligkamaaGreatDoor
open Go Go.RowKit Go.Shelf
def ErrsAt (w : World) (m : Value) (n : Int) : Prop := ∀ W, Grow w W → Calls Tryz.prog 17 #[m] W fun e w' => e = .returned (errV n) ∧ Grow W w'
theorem ErrsAt.grow {w w' : World} {m : Value} {n : Int} (h : ErrsAt w m n) (g : Grow w w') : ErrsAt w' m n := fun W g' => h W (g.trans g')
theorem zcp {w : World} {b : Nat} {own : Nat → Prop} {E : Em} (R : Emt w b own E) : ErrsAt w (.pointer (some ⟨b, 0, none⟩)) E.err := fun W g => zas W b own E (R.grow g)
theorem zsf (w : World) : ErrsAt w (.pointer none) 4 := fun W _ => by
 go_enter Tryz.func17, Tryz.ntmps17
 go_wp2_with fail
 go_ret
 exact ⟨by first | rfl | (rw [zap (by decide)]), grI⟩
theorem z2p (w : World) (m : Value) (n : Int) (hn : n ≠ 0) (H : ErrsAt w m n) (ok : Bool) (k : Int) :
 Calls Tryz.prog 106 #[m, .bool ok, .int .i64 k] w fun e w' => e = .returned (.bool false) ∧ Grow w w' := by
 have HE := Lib.hid (show ∀ W, Grow w W → Calls Tryz.prog 17 #[m] W fun e w' => e = .returned (.iface 66 (.int .i64 n)) ∧ Grow W w' from fun W g => by have := H W g; rw [zap hn] at this; exact this)
 clear H hn
 go_enter Tryz.func106, Tryz.ntmps106
 go_wp2_with (go_at_call 17; refine (HE.out _ grI).mono ?_; rintro e' w' ⟨rfl, nx, rfl⟩)
 go_ret
 exact ⟨rfl, grI⟩
theorem z01 (w : World) (m : Value) (n : Int) (hn : n ≠ 0) (H : ErrsAt w m n) (a b c : Int) :
 Calls Tryz.prog 86 #[m, .int .i64 a, .int .i64 b, .int .i64 c] w fun e w' => e = .returned (.tuple #[]) ∧ Grow w w' := by
 have HE := Lib.hid (show ∀ W, Grow w W → Calls Tryz.prog 17 #[m] W fun e w' => e = .returned (.iface 66 (.int .i64 n)) ∧ Grow W w' from fun W g => by have := H W g; rw [zap hn] at this; exact this)
 clear H hn
 go_enter Tryz.func86, Tryz.ntmps86
 go_wp2_with (go_at_call 17; refine (HE.out _ grI).mono ?_; rintro e' w' ⟨rfl, nx, rfl⟩)
 first | go_end0 | refine bodyPost_ret (results_none rfl _ _ _) rfl ?_
 exact ⟨rfl, grI⟩
theorem z0z (w : World) (m : Value) (n : Int) (hn : n ≠ 0) (H : ErrsAt w m n) (a b : Int) :
 Calls Tryz.prog 85 #[m, .int .i64 a, .int .i64 b] w fun e w' => e = .returned (.tuple #[]) ∧ Grow w w' := by
 have HE := Lib.hid (show ∀ W, Grow w W → Calls Tryz.prog 17 #[m] W fun e w' => e = .returned (.iface 66 (.int .i64 n)) ∧ Grow W w' from fun W g => by have := H W g; rw [zap hn] at this; exact this)
 clear H hn
 go_enter Tryz.func85, Tryz.ntmps85
 go_wp2_with (go_at_call 17; refine (HE.out _ grI).mono ?_; rintro e' w' ⟨rfl, nx, rfl⟩)
 first | go_end0 | refine bodyPost_ret (results_none rfl _ _ _) rfl ?_
 exact ⟨rfl, grI⟩
theorem zwa (w : World) (m : Value) (n : Int) (hn : n ≠ 0) (H : ErrsAt w m n) (a b : Int) :
 Calls Tryz.prog 107 #[m, .int .i64 a, .int .i64 b] w fun e w' => e = .returned (.tuple #[]) ∧ Grow w w' := by
 have HE := Lib.hid (show ∀ W, Grow w W → Calls Tryz.prog 17 #[m] W fun e w' => e = .returned (.iface 66 (.int .i64 n)) ∧ Grow W w' from fun W g => by have := H W g; rw [zap hn] at this; exact this)
 clear H hn
 go_enter Tryz.func107, Tryz.ntmps107
 go_wp2_with (go_at_call 17; refine (HE.out _ grI).mono ?_; rintro e' w' ⟨rfl, nx, rfl⟩)
 first | go_end0 | refine bodyPost_ret (results_none rfl _ _ _) rfl ?_
 exact ⟨rfl, grI⟩
theorem zv6 (w : World) (m : Value) (n : Int) (hn : n ≠ 0) (H : ErrsAt w m n) (a b c : Int) :
 Calls Tryz.prog 105 #[m, .int .i64 a, .int .i64 b, .int .i64 c] w fun e w' => e = .returned (.int .i64 0) ∧ Grow w w' := by
 have HE := Lib.hid (show ∀ W, Grow w W → Calls Tryz.prog 17 #[m] W fun e w' => e = .returned (.iface 66 (.int .i64 n)) ∧ Grow W w' from fun W g => by have := H W g; rw [zap hn] at this; exact this)
 clear H hn
 go_enter Tryz.func105, Tryz.ntmps105
 go_wp2_with (go_at_call 17; refine (HE.out _ grI).mono ?_; rintro e' w' ⟨rfl, nx, rfl⟩)
 go_ret
 exact ⟨rfl, grI⟩
theorem zv9 (w : World) (m : Value) (n : Int) (hn : n ≠ 0) (H : ErrsAt w m n) (a : Int) :
 Calls Tryz.prog 114 #[m, .int .i64 a] w fun e w' => e = .returned (.int .i64 0) ∧ Grow w w' := by
 have HE := Lib.hid (show ∀ W, Grow w W → Calls Tryz.prog 17 #[m] W fun e w' => e = .returned (.iface 66 (.int .i64 n)) ∧ Grow W w' from fun W g => by have := H W g; rw [zap hn] at this; exact this)
 clear H hn
 go_enter Tryz.func114, Tryz.ntmps114
 go_wp2_with (go_at_call 17; refine (HE.out _ grI).mono ?_; rintro e' w' ⟨rfl, nx, rfl⟩)
 go_ret
 exact ⟨rfl, grI⟩
theorem zfz (w : World) (m : Value) (n : Int) (hn : n ≠ 0) (H : ErrsAt w m n) (p : Int) :
 Calls Tryz.prog 101 #[m, .int .i64 p] w fun e w' => e = .returned (.bool false) ∧ Grow w w' := by
 have HM := Lib.hid (fun W (g : Grow w W) ok k => z2p W m n hn (H.grow g) ok k)
 clear H hn
 by_cases h0 : p = 0
 · subst h0
   go_enter Tryz.func101, Tryz.ntmps101
   go_wp2_with (go_at_call 106; refine (HM.out _ grI _ _).mono ?_; rintro e' w' ⟨rfl, nx, rfl⟩)
   go_ret
   exact ⟨rfl, grI⟩
 · have hb : (p == 0) = false := by simpa using h0
   clear h0
   go_enter Tryz.func101, Tryz.ntmps101
   go_wp2_with (go_at_call 106; refine (HM.out _ grI _ _).mono ?_; rintro e' w' ⟨rfl, nx, rfl⟩)
   go_ret
   exact ⟨rfl, grI⟩
theorem zv5 (w : World) (m : Value) (n : Int) (hn : n ≠ 0) (H : ErrsAt w m n) (a b : Int) :
 Calls Tryz.prog 71 #[m, .int .i64 a, .int .i64 b] w fun e w' => e = .returned (.tuple #[]) ∧ Grow w w' := by
 have HP := Lib.hid (fun W (g : Grow w W) => zfz W m n hn (H.grow g) a)
 clear H hn
 go_enter Tryz.func71, Tryz.ntmps71
 go_wp2_with (go_at_call 101; refine (HP.out _ grI).mono ?_; rintro e' w' ⟨rfl, nx, rfl⟩)
 first | go_end0 | refine bodyPost_ret (results_none rfl _ _ _) rfl ?_
 exact ⟨rfl, grI⟩
theorem zv8 (w : World) (m : Value) (n : Int) (hn : n ≠ 0) (H : ErrsAt w m n) (a b c : Int) :
 Calls Tryz.prog 79 #[m, .int .i64 a, .int .i64 b, .int .i64 c] w fun e w' => e = .returned (.tuple #[]) ∧ Grow w w' := by
 have HP := Lib.hid (fun W (g : Grow w W) => zfz W m n hn (H.grow g) a)
 clear H hn
 go_enter Tryz.func79, Tryz.ntmps79
 go_wp2_with (go_at_call 101; refine (HP.out _ grI).mono ?_; rintro e' w' ⟨rfl, nx, rfl⟩)
 first | go_end0 | refine bodyPost_ret (results_none rfl _ _ _) rfl ?_
 exact ⟨rfl, grI⟩
theorem zm0 (w : World) (m : Value) (n : Int) (hn : n ≠ 0) (H : ErrsAt w m n) (a : Int) :
 Calls Tryz.prog 81 #[m, .int .i64 a] w fun e w' => e = .returned (.tuple #[]) ∧ Grow w w' := by
 have HP := Lib.hid (fun W (g : Grow w W) => zfz W m n hn (H.grow g) a)
 clear H hn
 go_enter Tryz.func81, Tryz.ntmps81
 go_wp2_with (go_at_call 101; refine (HP.out _ grI).mono ?_; rintro e' w' ⟨rfl, nx, rfl⟩)
 first | go_end0 | refine bodyPost_ret (results_none rfl _ _ _) rfl ?_
 exact ⟨rfl, grI⟩
set_option maxRecDepth 100000 in
theorem zsi (w : World) (m : Value) (n : Int) (hn : n ≠ 0) (H : ErrsAt w m n) :
 Calls Tryz.prog 18 #[m] w fun e w' => e = .returned (.agg (stA SV.zero fun _ => 0)) ∧ Grow w w' := by
 have HE := Lib.hid (show ∀ W, Grow w W → Calls Tryz.prog 17 #[m] W fun e w' => e = .returned (.iface 66 (.int .i64 n)) ∧ Grow W w' from fun W g => by have := H W g; rw [zap hn] at this; exact this)
 clear H hn
 go_enter Tryz.func18, Tryz.ntmps18
 go_wp2_with (go_at_call 17; refine (HE.out _ grI).mono ?_; rintro e' w' ⟨rfl, nx, rfl⟩)
 refine bodyPost_ret (zhi rfl _ _ (w.heap.size) rfl ?_) rfl ?_
 · go_simp
 · exact ⟨by go_simp, grI⟩
end Go.Proofs.YthfalocligkamaaGreatDoor
namespace Go.Proofs.YthfalocligkamaaGreatDoor
open Go Go.RowKit Go.Shelf
theorem zv3 (w : World) (m : Value) (n : Int) (hn : n ≠ 0) (H : ErrsAt w m n) (a : Int) :
 Calls Tryz.prog 74 #[m, .int .i64 a] w fun e w' => e = .returned (.tuple #[]) ∧ Grow w w' := by
 have HP := Lib.hid (fun W (g : Grow w W) => zfz W m n hn (H.grow g) a)
 clear H hn
 go_enter Tryz.func74, Tryz.ntmps74
 go_wp2_with (go_at_call 101; refine (HP.out _ grI).mono ?_; rintro e' w' ⟨rfl, nx, rfl⟩)
 first | go_end0 | refine bodyPost_ret (results_none rfl _ _ _) rfl ?_
 exact ⟨rfl, grI⟩
@[go_sem] theorem zu2 (w : World) (b o : Nat) (h : (w.cell? ⟨b, o, none⟩).isSome = true) (hf : w.frozen? ⟨b, o, none⟩ = false) : (zaz 80 (.pointer (some ⟨b, o, none⟩)) (.slice none 0 0)).run Tryz.prog w = .ok .skip (w.setCell ⟨b, o, none⟩ (.slice none 0 0)) :=
 zcf w b o 80 .nil (by kernel_rfl) h hf
end Go.Proofs.YthfalocligkamaaGreatDoor
