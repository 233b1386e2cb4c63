/-
  The walk of the document's await.
  The walk of the document's New.
  The walk of the document's Put: its steps.
-/
import Derived.Test.YtnjclibennadcaaGreatDoorMG1
import Derived.Test.YtnjclibennadcaaGreatDoorMRef17
import Derived.Test.YtnjclibennadcaaGreatDoorMChk3
import Derived.Test.YtnjclibennadcaaGreatDoorMRefChk
import Derived.Test.YtnjclibennadcaaGreatDoorMChk
import Derived.Test.YtnjclibennadcaaGreatDoorMEm9
import Derived.Deep.DeepCutAuto
namespace Go.Proofs.YtnjclibennadcaaGreatDoor
open Go Go.RowKit Go.Shelf

@[go_sem ↓] theorem storeS_gpends (ρ : Operand → Value) (dst : Option Tmp) (x y : Operand) (ty : TypeId) (pos : String) (after : Array Edge) (guard : Option (Nat × Bool)) :
    execOp ρ { dst, op := .store 99 x y, type := ty, pos, after, guard } = stRow 99 (ρ x) (ρ y) := rfl
@[go_sem] theorem run_storeS_gpends (w : World) (b o : Nat) (s : Sl) (h : (w.cell? ⟨b, o, none⟩).isSome = true) (hf : w.frozen? ⟨b, o, none⟩ = false) : (stRow 99 (.pointer (some ⟨b, o, none⟩)) s.val).run Tryz.prog w = .ok .skip (w.setCell ⟨b, o, none⟩ s.val) :=
  run_stSl w b o 99 s (by kernel_rfl) h hf
@[go_sem] theorem run_storeX_gpends (w : World) (b o sb so n c : Nat) (h : (w.cell? ⟨b, o, none⟩).isSome = true) (hf : w.frozen? ⟨b, o, none⟩ = false) : (stRow 99 (.pointer (some ⟨b, o, none⟩)) (.slice (some ⟨sb, so, none⟩) n c)).run Tryz.prog w = .ok .skip (w.setCell ⟨b, o, none⟩ (.slice (some ⟨sb, so, none⟩) n c)) :=
  run_stSl w b o 99 (.mk sb so n c) (by kernel_rfl) h hf
@[go_sem ↓] theorem load_GPending (ρ : Operand → Value) (dst : Option Tmp) (x : Operand) (ty : TypeId) (pos : String) (after : Array Edge) (guard : Option (Nat × Bool)) :
    execOp ρ { dst, op := .load 108 x, type := ty, pos, after, guard } = ldRow 108 (ρ x) := rfl
@[go_sem ↓] theorem store_GPending (ρ : Operand → Value) (dst : Option Tmp) (x y : Operand) (ty : TypeId) (pos : String) (after : Array Edge) (guard : Option (Nat × Bool)) :
    execOp ρ { dst, op := .store 108 x y, type := ty, pos, after, guard } = stRow 108 (ρ x) (ρ y) := rfl
@[go_sem] theorem run_load_GPending (w : World) (b o : Nat) (h : o + 3 ≤ (w.blk b).size) : (ldRow 108 (.pointer (some ⟨b, o, none⟩))).run Tryz.prog w = .ok (.value (.agg (sub (w.blk b) o 3))) w :=
  run_ldSub w b o 108 3 (by kernel_rfl) (by kernel_rfl) h (by omega)
@[go_sem] theorem run_store_GPending (w : World) (b : Nat) (cs : Array Value) (h : (w.blk b).size = 3) (hc : cs.size = 3) (h1 : oneCells cs = true) (hf : w.free b = true) : (stRow 108 (.pointer (some ⟨b, 0, none⟩)) (.agg cs)).run Tryz.prog w = .ok .skip (w.setRow b cs) :=
  run_stRow w b 108 3 _ (by kernel_rfl) h hc (by omega) hf h1
@[go_sem ↓] theorem build_GPending (ρ : Operand → Value) (dst : Option Tmp) (parts : Array (Nat × Operand)) (ty : TypeId) (pos : String) (after : Array Edge) (guard : Option (Nat × Bool)) :
    execOp ρ { dst, op := .build 108 parts, type := ty, pos, after, guard } = bdRow 108 (parts.map fun (i, x) => (i, ρ x)) := rfl
@[go_sem] theorem run_build_gpending (w : World) (a b c : Int) : (bdRow 108 #[(0, .int .i64 a), (1, .int .i64 b), (2, .int .i64 c)]).run Tryz.prog w = .ok (.value (.agg (cellsOf [a, b, c]))) w := by kernel_rfl
@[go_sem ↓] theorem bslice_gpends (ρ : Operand → Value) (dst : Option Tmp) (n : Nat) (parts : Array (Nat × Operand)) (ty : TypeId) (pos : String) (after : Array Edge) (guard : Option (Nat × Bool)) :
    execOp ρ { dst, op := .buildSlice 99 n parts, type := ty, pos, after, guard } = bsRow 99 n (parts.map fun (i, x) => (i, ρ x)) := rfl
@[go_sem] theorem run_bs_gpend (w : World) (a b c : Int) : (bsRow 99 1 #[(0, .agg (cellsOf [a, b, c]))]).run Tryz.prog w = .ok (.value (.slice (some ⟨w.heap.size, 0, none⟩) 1 1)) (w.alloc (.cells (cellsOf [a, b, c]) 108)) := by kernel_rfl
/-- What is pending behind the first abilities. -/
def Em.pendAb (E : Em) (id ctl : Int) (m : List AbN) (wh : Int) (k : Nat) : Em := { E with pend := E.pend ++ (usesTo m wh k).map fun i => [id, i, ctl] }
theorem pendAb_yes (E : Em) (id ctl : Int) (m : List AbN) (wh : Int) (k : Nat) (h : ((m.getD k ⟨0, 0, 0, 0, 0⟩).wh == wh) = true) : E.pendAb id ctl m wh (k + 1) = { E.pendAb id ctl m wh k with pend := (E.pendAb id ctl m wh k).pend ++ [[id, (k : Int), ctl]] } := by
  unfold Em.pendAb
  rw [usesTo_succ, if_pos h]
  simp
theorem pendAb_no (E : Em) (id ctl : Int) (m : List AbN) (wh : Int) (k : Nat) (h : ((m.getD k ⟨0, 0, 0, 0, 0⟩).wh == wh) = false) : E.pendAb id ctl m wh (k + 1) = E.pendAb id ctl m wh k := by
  unfold Em.pendAb
  rw [usesTo_succ, if_neg (by rw [h]; simp), List.append_nil]
theorem pendAb_len (E : Em) (id ctl : Int) (m : List AbN) (wh : Int) (k : Nat) : (E.pendAb id ctl m wh k).pend.length ≤ E.pend.length + k := by
  unfold Em.pendAb usesTo
  rw [List.length_append, List.length_map, List.length_map]
  have := List.length_filter_le (fun i => (m.getD i ⟨0, 0, 0, 0, 0⟩).wh == wh) (List.range k)
  rw [List.length_range] at this
  omega
theorem CardOk.ab_low {w : World} {n : Nat} {c : CdV} {d : CardN} (h : CardOk w n c d) {i : Nat} (hi : i < d.abs.length) : n ≤ c.abs.b := by
  obtain ⟨l, h1, h0, h2⟩ := h.abs
  rcases h0 with rfl | h0
  · have := h2.get.1
    simp at this; omega
  · exact h0
theorem CardOk.abs_n {w : World} {n : Nat} {c : CdV} {d : CardN} (h : CardOk w n c d) : c.abs.n = d.abs.length := by
  obtain ⟨l, h1, _, h2⟩ := h.abs
  rw [h1.len, List.length_map, h2.get.1]
set_option maxRecDepth 100000 in
set_option maxHeartbeats 8000000 in
theorem gawait_any (T8 : Table08) (w : World) (b : Nat) (own : Nat → Prop) (E : Em) (R : Gmt w b own E) (hpl : E.pend.length ≤ 1000000) (a : Nat) (ha : a < E.now.objs.length) (h0 : 0 ≤ gt (rowAt E.now.objs a) 0) (h1 : gt (rowAt E.now.objs a) 0 < 120) (wh ctl : Int) :
    Calls Tryz.prog 191 #[.pointer (some ⟨b, 0, none⟩), .int .i64 (a : Int), .int .i64 wh, .int .i64 ctl] w fun r w' => r = .returned (.tuple #[]) ∧ DPost w b own (E.await a wh ctl) w' := by
  have hown := R.lt
  have HR0 := Lib.hid R
  obtain ⟨V, sd, se, sp, hr, ho⟩ := R
  have hoc := hr.host.rep.objs.cell a 0 ha (by omega)
  have hN := hr.host.rep.objs.len
  have hob := (cell_blk hoc).1
  rw [Nat.add_zero] at hoc
  have hH := hr.host
  have hcell := cell_of_blk (hH).free (hH).blk; have hfz := frozen_of_free (hH).free; have hset := setCell_of_blk (hH).free (hH).blk; have hblk := (hH).blk; have hfree := (hH).free; have hlt := (hH).lt; have hne1 : ¬ b = (w).heap.size := (by omega); have hne2 : ¬ (w).heap.size = b := (by omega)
  have HL := Lib.hid hown
  clear hr ho hH hblk hown
  unfold Em.await
  rw [Int.toNat_natCast, if_pos ⟨h0, h1⟩]
  obtain ⟨c, hc⟩ := Int.eq_ofNat_of_zero_le h0
  rw [hc] at hoc h1 ⊢
  rw [Int.toNat_natCast]
  have hc120 : c < 120 := by omega
  have ha1 : (a : Int) < E.now.objs.length := by omega
  have ha0 : (0 : Int) ≤ (a : Int) := by omega
  have HCa := Lib.hid (fun W => T8 W c hc120)
  have hab : (cardN c).abs.length ≤ 1000 := Nat.le_trans (cardN_abs c) (by omega)
  have hfin : { E with pend := E.pend ++ (usesN (cardN c).abs wh).map fun i => [(a : Int), i, ctl] } = E.pendAb a ctl (cardN c).abs wh (cardN c).abs.length := rfl
  rw [hfin]
  have HZ : Hid (E.pendAb a ctl (cardN c).abs wh 0 = E) := by rw [Hid]; unfold Em.pendAb usesTo; simp
  have HYs := Lib.hid (pendAb_yes E a ctl (cardN c).abs wh)
  have HNo := Lib.hid (pendAb_no E a ctl (cardN c).abs wh)
  have HLe := Lib.hid (pendAb_len E a ctl (cardN c).abs wh)
  have HOK := Lib.hid (fun (W W' : World) cc (h : CardIs W' W.heap.size cc (cardF c)) => h.ok hc120)
  generalize hm : (cardN c).abs = m at *
  have HM := Lib.hid hm
  clear hm
  clear h0 h1 hc hfin T8
  go_enter Tryz.func191, Tryz.ntmps191
  go_wp2_with (go_at_call 96; refine (HCa.out _).mono ?_; rintro e' w' ⟨cc, rfl, hC, nx, rfl⟩; have hC2 := HOK.out _ _ _ hC; (try simp only [drew_plus] at hC2); (try simp only [plus_plus] at hC2); have HC := Lib.hid hC2; have hcn : cc.abs.n = m.length := (by rw [hC2.abs_n, HM.out]); clear hC hC2)
  have hG : Grow w ((w.plus nx).alloc (.cells cc.arr 73)) := grI
  have hC1 := HC.out.grow (w' := (w.plus nx).alloc (.cells cc.arr 73)) grI
  have hem : Gmt ((w.plus nx).alloc (.cells cc.arr 73)) b own E := HR0.out.grow hG
  have hln : w.heap.size + nx.objs.size < ((w.plus nx).alloc (.cells cc.arr 73)).heap.size := by simp only [alloc_size', plus_size]; omega
  have hcs := Lib.hid hcn
  clear HC hcell hfz hset hfree hcn
  generalize (w.plus nx).alloc (.cells cc.arr 73) = W1 at *
  have HC1 := Lib.hid hC1
  have HEM := Lib.hid hem
  have HG := Lib.hid hG
  clear hC1 hem hG
  go_loopw [32] (fun i wr => ∃ (k : Nat) (ownk : Nat → Prop), k ≤ m.length ∧ i = .int .i64 k ∧ TurnG W1 b own (E.pendAb a ctl m wh k) wr ownk) (fun i _ => m.length - (intOf i).toNat)
  case atStart => exact ⟨0, own, by omega, rfl, by rw [HZ.out]; exact TurnG.first HEM.out⟩
  case round =>
    obtain ⟨k, ownk, hk, rfl, hTu⟩ := hrel
    have HTu := Lib.hid hTu
    by_cases hlt : k < m.length
    · have hlt2 : k < (cardN c).abs.length := by rw [HM.out]; exact hlt
      obtain ⟨ab, _, q1, q2, q3, _, q5⟩ := HC1.out.ab hlt2
      have hlow := HC1.out.ab_low hlt2
      have hbk := hTu.kept.blk _ q1 (fun ho => by have := HL.out _ ho; omega)
      have q1' : cc.abs.b < wr.heap.size := Nat.lt_of_lt_of_le q1 hTu.kept.size
      rw [← hbk] at q2 q3
      have hwh : (m.getD k ⟨0, 0, 0, 0, 0⟩).wh = ab.wh := by rw [← HM.out]; exact q5.1.symm
      have i1 : (0 : Int) ≤ (k : Int) ∧ (k : Int) < (cc.abs.n : Int) := by have := hcs.out; omega
      have hpk : (E.pendAb a ctl m wh k).pend.length ≤ 1001000 := by have := HLe.out k; omega
      cases hd2 : (ab.wh == wh) with
      | false =>
        have HS := Lib.hid (HNo.out k (by rw [hwh]; exact hd2))
        clear hTu q5 hwh hbk
        go_wp2_with fail
        go_roundw
        case rel => exact ⟨k + 1, ownk, by omega, by go_num, by rw [HS.out]; exact HTu.out.grow grI⟩
        case measure => simp [intOf]; omega
      | true =>
        have HS := Lib.hid (HYs.out k (by rw [hwh]; exact hd2))
        generalize E.pendAb a ctl m wh k = Ek at *
        obtain ⟨V2, sd2, se2, sp2, hr2, ho2⟩ := hTu.em
        obtain ⟨_, _, hc39, _⟩ := hr2.cells
        have hH2 := hr2.host
        have hfz2 := frozen_of_free hH2.free
        have hset2 := setCell_of_blk hH2.free hH2.blk
        have hfree2 := hH2.free
        have hlt2 := hH2.lt
        have hspn : sp2.n = Ek.pend.length := hr2.pend.len
        have hne3 : ¬ b = wr.heap.size := by omega
        have hne4 : ¬ wr.heap.size = b := by omega
        have HR2 := Lib.hid hr2
        have HO2 := Lib.hid ho2
        clear hTu hr2 ho2 hH2 q5 hwh hbk
        go_wp2_with (at_builtin; refine wpList_append_cells rfl _ _ 99 rfl 108 Tryz.t108 (.agg (cellsOf (List.replicate 3 0))) 3 24 Tryz.underlying99 (by kernel_rfl) (by kernel_rfl) (by kernel_rfl) (by kernel_rfl) (by omega) rfl sp2 (.mk _ 0 1 1) (flat Ek.pend) (flat [[(a : Int), (k : Int), ctl]]) rfl rfl (HR2.out.pend.cells.grow grI) (HR2.out.pendR.grow grI) (one_row _ _ 3 [(a : Int), (k : Int), ctl] rfl (by go_simp)) (flat_oneCell _) (flat_oneCell _) (by rw [hspn]; show Ek.pend.length + 1 ≤ 4194304; omega) ?_; intro s' w' c1 c2 c3 c4 c5 c6; have hS := g_pend HR2.out (e := [(a : Int), (k : Int), ctl]) rfl grI c1 c2 c3 c4; have hq3 := hS.blk; have hqf3 := hS.free; have hqc := cell_of_blk hqf3 hq3; have hqz := frozen_of_free hqf3; have hqs3 := setCell_of_blk hqf3 hq3; have HSP := Lib.hid hS; clear hS hq3 c1 c2 c3 c4 c5 c6)
        go_roundw
        case rel =>
          obtain ⟨own3, T3⟩ := HTu.out.step (Grow.refl _) (HSP.out.post HR2.out HO2.out)
          exact ⟨k + 1, own3, by omega, by go_num, by rw [HS.out]; exact T3⟩
        case measure => simp [intOf]; omega
    · have hkl : k = m.length := by omega
      subst hkl
      clear hTu
      go_wp2_with fail
      go_end0
      exact ⟨rfl, HTu.out.post HG.out⟩
end Go.Proofs.YtnjclibennadcaaGreatDoor
namespace Go.Proofs.YtnjclibennadcaaGreatDoor
open Go Go.RowKit Go.Shelf

@[go_sem ↓] theorem build_GDoc (ρ : Operand → Value) (dst : Option Tmp) (parts : Array (Nat × Operand)) (ty : TypeId) (pos : String) (after : Array Edge) (guard : Option (Nat × Bool)) :
    execOp ρ { dst, op := .build 101 parts, type := ty, pos, after, guard } = bdRow 101 (parts.map fun (i, x) => (i, ρ x)) := rfl
set_option maxRecDepth 100000 in
@[go_sem] theorem run_build_gdoc (w : World) (V : SV) (num : Nat → Int) (n : Int) : (bdRow 101 #[(0, .agg (stA V num)), (1, .slice none 0 0), (4, .int .i64 n)]).run Tryz.prog w = .ok (.value (.agg (hoA V num (gR .nil .nil .nil n)))) w := by
  unfold gR
  kernel_rfl
theorem new_nil (S : St) : Em.new S [] = ⟨S, [], [], [], checkN S⟩ := by
  unfold Em.new
  rw [show (if 4096 < ([] : List Int).length then (19 : Int) else 0) = 0 from rfl]
  by_cases h : checkN S = 0
  · rw [h]; rfl
  · unfold Em.fail
    exact if_neg h
theorem g_fresh {w : World} {S : St} {V' : SV} {t : TypeId} (n : Int) (hR : RepSt w V' S) (hU : ∀ k, V'.uses k → k < w.heap.size) :
    Gmt (w.alloc (.cells (hoA V' S.num (gR .nil .nil .nil n)) t)) w.heap.size (gOwn w.heap.size V' .nil .nil .nil) ⟨S, [], [], [], n⟩ := by
  have hg : Grow w (w.alloc (.cells (hoA V' S.num (gR .nil .nil .nil n)) t)) := (Grow.refl _).alloc _
  refine ⟨V', .nil, .nil, .nil, ⟨⟨by rw [blk_alloc, if_pos rfl], by rw [free_alloc, if_pos rfl]; rfl, hR.grow hg, fun h => ?_, fun k hk => ?_⟩, Ints.nil _, Rows'.nil _ _, Room.nil _ _, Rows'.nil _ _, Room.nil _ _, fun _ h => h.elim, fun _ h => h.elim, fun _ h => h.elim, fun h => h.elim, fun h => h.elim, fun h => h.elim, fun _ _ => ⟨fun h => h.elim, fun h => h.elim⟩, fun _ h => h.elim, fun _ h => h.elim⟩, fun _ => Iff.rfl⟩
  · have := hU _ h; omega
  · have := hU _ hk; rw [alloc_size']; omega
set_option maxRecDepth 100000 in
set_option maxHeartbeats 4000000 in
theorem gnew_any (S : St) (V : SV) (w : World) (R : RepSt w V S) (hS : Small S) :
    Calls Tryz.prog 14 #[.agg (stA V S.num), .slice none 0 0] w fun e w' => ∃ b own, e = .returned (.pointer (some ⟨b, 0, none⟩)) ∧ Gmt w' b own (Em.new S []) ∧ (∀ k, own k → w.heap.size ≤ k ∧ k < w'.heap.size) ∧ Grow w w' := by
  have HR := Lib.hid R
  have HS := Lib.hid hS
  rw [new_nil]
  have HCh := Lib.hid (fun W (g : Grow w W) => refCheck_any S V W (R.grow g) hS)
  generalize checkN S = n at *
  clear R hS
  go_enter Tryz.func14, Tryz.ntmps14
  go_wp2_with fail
  go_region_held3 (fun W => W.blk w.heap.size = stA V S.num) (simp [go_sem, *]) (first | (go_at_call 59; refine (ncopy_any S V _ (HR.out.grow grI) HS.out).mono ?_; rintro e' w' ⟨V', rfl, hF, nx, rfl⟩; (try simp only [drew_plus] at hF); (try simp only [plus_plus] at hF); have HF := Lib.hid hF; clear hF) | (go_at_call 36; refine (HCh.out _ grI).mono ?_; rintro e' w' ⟨rfl, ny, rfl⟩))
  all_goals
    have hF := HF.out
    rw [show ((w.alloc (.cells (stA V S.num) 29)).drew.heap.size) = w.heap.size + 1 from alloc_size' _ _] at hF
    have hrep : RepSt ((w.alloc (.cells (stA V S.num) 29)).plus (nx.late.and ny)) V' S := hF.rep.grow grI
    have hu : ∀ k, V'.uses k → w.heap.size + 3 ≤ k ∧ k < ((w.alloc (.cells (stA V S.num) 29)).plus (nx.late.and ny)).heap.size := fun k hk => by
      have h1 := hF.own k hk
      simp only [plus_size, alloc_size', Ext.and, Array.size_append] at h1 ⊢
      exact ⟨by omega, by omega⟩
    have hg := g_fresh (t := 101) n hrep (fun k hk => (hu k hk).2)
    have hsz : ((w.alloc (.cells (stA V S.num) 29)).plus (nx.late.and ny)).heap.size = w.heap.size + 1 + (nx.late.and ny).objs.size := by simp only [plus_size, alloc_size']
    rw [hsz] at hg
    have hown : ∀ k, gOwn (w.heap.size + 1 + (nx.late.and ny).objs.size) V' .nil .nil .nil k → w.heap.size ≤ k := fun k hk => by
      rcases hk with h | h | h | h | h
      · omega
      · have := (hu k h).1; omega
      · exact h.elim
      · exact h.elim
      · exact h.elim
    have hc : (hoA V' S.num (gR .nil .nil .nil n))[40]? = some (I n) := by rw [show 40 = 37 + 3 from rfl, hoA_rest]; rfl
    have HG := Lib.hid hg
    have HO := Lib.hid hown
    clear hF hrep hu hg hsz hown HF
    by_cases hn : n = 0
    · have hnb : (n == 0) = true := by simpa using hn
      clear hn
      go_wp2_with fail
      go_ret
      exact ⟨_, _, rfl, HG.out.grow grI, fun k hk => ⟨HO.out k hk, (HG.out.grow grI).lt k hk⟩, grI⟩
    · have hnb : (n == 0) = false := by simpa using hn
      clear hn
      go_wp2_with fail
      go_ret
      exact ⟨_, _, rfl, HG.out.grow grI, fun k hk => ⟨HO.out k hk, (HG.out.grow grI).lt k hk⟩, grI⟩
end Go.Proofs.YtnjclibennadcaaGreatDoor
namespace Go.Proofs.YtnjclibennadcaaGreatDoor
open Go Go.RowKit Go.Shelf

/-- Where a Put of the document has come to. -/
structure At8 (W : World) (b : Nat) (own : Nat → Prop) (E0 : Em) (S : St) (a : Nat) (r : List Int) (n : Nat) (E : Em) (wk : World) (ownk : Nat → Prop) : Prop where
  turn : TurnG W b own E wk ownk
  at_ : EmAt E0 S a r n E
theorem EmAt.small {E0 E : Em} {S : St} {a n : Nat} {r : List Int} (h : EmAt E0 S a r n E) (hS : Small S) : Small E.now :=
  ⟨by rw [h.now]; show (S.objs.set a r).length ≤ _; rw [List.length_set]; exact hS.objs, fun z hz => by rw [h.now]; exact hS.list z hz⟩
theorem EmAt.row {E0 E : Em} {S : St} {a n : Nat} {r : List Int} (h : EmAt E0 S a r n E) (ha : a < S.objs.length) : a < E.now.objs.length ∧ rowAt E.now.objs a = r := by
  rw [h.now]
  refine ⟨by show a < (S.objs.set a r).length; rw [List.length_set]; exact ha, ?_⟩
  show rowAt (S.objs.set a r) a = r
  rw [rowAt_set _ _ _ _ ha, if_pos rfl]
theorem gset_at {W : World} {b : Nat} {own : Nat → Prop} {E0 : Em} {S : St} {a : Nat} {r : List Int} {n : Nat} {E : Em} {wk : World} {ownk : Nat → Prop} (h : At8 W b own E0 S a r n E wk ownk) (hS : Small S) (ha : a < S.objs.length) (wx : World) (g : Grow wk wx) (f : Nat) (fi : Int) (hfi : fi = (f : Int)) (v : Int) (hf : f < 18) (h3 : f ≠ 3) (hv : -1073741824 ≤ v ∧ v ≤ 1073741824) (hn : n < 65536) :
    Calls Tryz.prog 79 #[.pointer (some ⟨b, 0, none⟩), .int .i64 (a : Int), .int .i64 fi, .int .i64 v] wx fun e w' => e = .returned (.tuple #[]) ∧ ∃ own2, At8 W b own E0 S a (r.set f v) (n + 1) (E.setObj a fi v) w' own2 := by
  subst hfi
  refine (gset_any wx b ownk E (h.turn.em.grow g) (h.at_.small hS) (fun _ => by have := h.at_.evs; omega) a f v (h.at_.row ha).1 hf h3 hv).mono ?_
  rintro e w' ⟨he, hE⟩
  obtain ⟨own2, T⟩ := h.turn.step g hE
  exact ⟨he, own2, T, h.at_.set ha f v hf h3 hv hn⟩
theorem gshow_at {W : World} {b : Nat} {own : Nat → Prop} {E0 : Em} {S : St} {a : Nat} {r : List Int} {n : Nat} {E : Em} {wk : World} {ownk : Nat → Prop} (h : At8 W b own E0 S a r n E wk ownk) (hS : Small S) (ha : a < S.objs.length) (wx : World) (g : Grow wk wx) (h0 : 0 ≤ gt r 17) (h3 : gt r 17 ≤ 3) (p : Int) (p0 : 0 ≤ p) (p3 : p ≤ 3) (hn : n < 65536) :
    Calls Tryz.prog 189 #[.pointer (some ⟨b, 0, none⟩), .int .i64 (a : Int), .int .i64 p] wx fun e w' => e = .returned (.tuple #[]) ∧ ∃ own2, At8 W b own E0 S a (r.set 17 (showN (gt r 17) p)) (n + 1) (E.show a p) w' own2 := by
  obtain ⟨q1, q2⟩ := h.at_.row ha
  refine (gshow_any wx b ownk E (h.turn.em.grow g) (h.at_.small hS) h.at_.err (by have := h.at_.evs; omega) a q1 (by rw [q2]; exact h0) (by rw [q2]; exact h3) p p0 p3).mono ?_
  rintro e w' ⟨he, hE⟩
  obtain ⟨own2, T⟩ := h.turn.step g hE
  exact ⟨he, own2, T, h.at_.show ha p h0 h3 p0 p3 hn⟩
/-- The row behind the first k of what is zero beside the field. -/
def restRow (r : List Int) (k : Nat) : List Int := (restL.take k).foldl (fun r f => r.set f.toNat 0) r
theorem restL_take (k : Nat) (h : k < 9) : restL.take (k + 1) = restL.take k ++ [gt restL k] := by
  have : k = 0 ∨ k = 1 ∨ k = 2 ∨ k = 3 ∨ k = 4 ∨ k = 5 ∨ k = 6 ∨ k = 7 ∨ k = 8 := by omega
  rcases this with rfl | rfl | rfl | rfl | rfl | rfl | rfl | rfl | rfl <;> rfl
theorem restRow_succ (r : List Int) (k : Nat) (h : k < 9) : restRow r (k + 1) = (restRow r k).set (gt restL k).toNat 0 := by
  unfold restRow
  rw [restL_take k h, List.foldl_append]; rfl
theorem restL_in (k : Nat) (h : k < 9) : ∃ f : Nat, gt restL k = f ∧ f < 18 ∧ f ≠ 3 := by
  refine ⟨k + 4, ?_, by omega, by omega⟩
  have : k = 0 ∨ k = 1 ∨ k = 2 ∨ k = 3 ∨ k = 4 ∨ k = 5 ∨ k = 6 ∨ k = 7 ∨ k = 8 := by omega
  rcases this with rfl | rfl | rfl | rfl | rfl | rfl | rfl | rfl | rfl <;> rfl
@[go_sem] theorem run_bs_nine (w : World) : (bsRow 23 9 #[(0, .int .i64 4), (1, .int .i64 5), (2, .int .i64 6), (3, .int .i64 7), (4, .int .i64 8), (5, .int .i64 9), (6, .int .i64 10), (7, .int .i64 11), (8, .int .i64 12)]).run Tryz.prog w = .ok (.value (.slice (some ⟨w.heap.size, 0, none⟩) 9 9)) (w.alloc (.cells (cellsOf restL) 3)) := by kernel_rfl
end Go.Proofs.YtnjclibennadcaaGreatDoor
