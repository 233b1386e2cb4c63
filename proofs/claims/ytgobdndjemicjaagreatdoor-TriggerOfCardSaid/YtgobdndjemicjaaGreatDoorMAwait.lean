/-
  The walk of an emitter's await, whatever the card.
-/
import Derived.Test.YtgobdndjemicjaaGreatDoorMPutN
namespace Go.Proofs.YtgobdndjemicjaaGreatDoor
open Go Go.RowKit Go.Shelf

@[go_sem] theorem run_build_card0 (w : World) : (bdRow 44 #[]).run Tryz.prog w = .ok (.value (.agg (CdV.arr ⟨0, 0, false, 0, 0, 0, 0, 0, 0, 0, 0, 0, .nil⟩))) w := by kernel_rfl
set_option maxRecDepth 100000 in
set_option maxHeartbeats 2000000 in
theorem card_none (w : World) (n : Int) (hn : n < 0 ∨ 120 ≤ n) : Calls Tryz.prog 94 #[.int .i64 n] w fun e w' => ∃ c : CdV, e = .returned (.tuple #[.agg c.arr, .iface 96 (.int .i64 4)]) ∧ CardOk w' w.heap.size c ⟨0, 0, 0, 0, []⟩ ∧ Grow w w' := by
  by_cases h0 : n < 0
  · clear hn
    go_enter Tryz.func94, Tryz.ntmps94
    go_wp2_with fail
    refine bodyPost_ret (results2_Card rfl _ _ _ rfl ?_) rfl ?_
    · go_simp
    · refine ⟨⟨0, 0, false, 0, 0, 0, 0, 0, 0, 0, 0, 0, .nil⟩, (by first | rfl | (go_simp; done) | (go_simp; rfl)), ⟨rfl, rfl, rfl, rfl, [], RowsV.nil _ _, .inl rfl, .nil⟩, grI⟩
  · have h1 : 120 ≤ n := by omega
    clear hn
    go_enter Tryz.func94, Tryz.ntmps94
    go_wp2_with fail
    refine bodyPost_ret (results2_Card rfl _ _ _ rfl ?_) rfl ?_
    · go_simp
    · refine ⟨⟨0, 0, false, 0, 0, 0, 0, 0, 0, 0, 0, 0, .nil⟩, (by first | rfl | (go_simp; done) | (go_simp; rfl)), ⟨rfl, rfl, rfl, rfl, [], RowsV.nil _ _, .inl rfl, .nil⟩, grI⟩
set_option maxRecDepth 100000 in
set_option maxHeartbeats 8000000 in
theorem await_none (w : World) (b : Nat) (own : Nat → Prop) (E : Em) (R : Emt w b own E) (a : Nat) (ha : a < E.now.objs.length) (hx : ¬ (0 ≤ gt (rowAt E.now.objs a) 0 ∧ gt (rowAt E.now.objs a) 0 < 120)) (wh ctl : Int) :
    Calls Tryz.prog 93 #[.pointer (some ⟨b, 0, none⟩), .int .i64 (a : Int), .int .i64 wh, .int .i64 ctl] w fun r w' => r = .returned (.tuple #[]) ∧ EPost w b own (E.await a wh ctl) w' := by
  have hown := R.lt
  have HR0 := Lib.hid R
  obtain ⟨V, sd, se, sp, hr, ho⟩ := R
  have hoc := hr.host.rep.objs.cell a 0 ha (by omega)
  have hN := hr.host.rep.objs.len
  have hob := (cell_blk hoc).1
  rw [Nat.add_zero] at hoc
  have hH := hr.host
  have hcell := cell_of_blk (hH).free (hH).blk; have hfz := frozen_of_free (hH).free; have hset := setCell_of_blk (hH).free (hH).blk; have hblk := (hH).blk; have hfree := (hH).free; have hlt := (hH).lt; have hne1 : ¬ b = (w).heap.size := (by omega); have hne2 : ¬ (w).heap.size = b := (by omega)
  have HL := Lib.hid hown
  clear hr ho hH hblk hown
  unfold Em.await
  rw [Int.toNat_natCast, if_neg hx]
  have ha1 : (a : Int) < E.now.objs.length := by omega
  generalize gt (rowAt E.now.objs a) 0 = x at *
  have HCa := Lib.hid (fun W => card_none W x (by omega))
  have HUs := Lib.hid (fun W (cc : CdV) m (h : CardOk W m cc ⟨0, 0, 0, 0, []⟩) => uses_any W cc ⟨0, 0, 0, 0, []⟩ m h wh (by simp))
  clear hx
  go_enter Tryz.func93, Tryz.ntmps93
  go_wp2_with (go_at_call 94; refine (HCa.out _).mono ?_; rintro e' w' ⟨cc, rfl, hC, n1, rfl⟩; have HC := Lib.hid hC; clear hC)
  have hC := HC.out
  (try simp only [drew_plus] at hC); (try simp only [plus_plus] at hC)
  have hG : Grow w ((w.plus n1).alloc (.cells cc.arr 44)) := grI
  have hC2 := hC.grow (w' := (w.plus n1).alloc (.cells cc.arr 44)) grI
  have hqb : ((w.plus n1).alloc (.cells cc.arr 44)).blk (w.plus n1).heap.size = cc.arr := by rw [blk_alloc, if_pos rfl]
  have hqf : ((w.plus n1).alloc (.cells cc.arr 44)).free (w.plus n1).heap.size = true := by go_simp
  have hql : (w.plus n1).heap.size < ((w.plus n1).alloc (.cells cc.arr 44)).heap.size := by rw [alloc_size']; omega
  have hqo : ¬ own (w.plus n1).heap.size := fun h => by
    have h2 := HL.out _ h
    rw [plus_size] at h2
    omega
  clear hC HC
  have HF := Lib.hid (fun W (g : Grow ((w.plus n1).alloc (.cells cc.arr 44)) W) => by have := fail_any W b own E ((HR0.out.grow hG).grow g) 4; rw [errV_is (show (4 : Int) ≠ 0 by decide)] at this; exact this)
  have hq0 : (w.plus n1).heap.size = w.heap.size + n1.objs.size := plus_size _ _
  rw [hq0] at hqb hqf hql hqo
  have HT1 := Lib.hid (Turn.first (HR0.out.grow hG))
  generalize hq : w.heap.size + n1.objs.size = q at *
  clear hq hcell hfz hset hfree hlt hne1 hne2 hoc hob hN
  generalize (w.plus n1).alloc (.cells cc.arr 44) = W1 at *
  have HG := Lib.hid hG
  refine (HF.out _ grI).mono ?_
  rintro e' w2 ⟨rfl, hE⟩
  obtain ⟨own2, T2⟩ := HT1.out.step grI hE
  have hb2 : w2.blk q = cc.arr := by rw [T2.kept.blk _ hql hqo]; exact hqb
  have hf2 : w2.free q = true := by rw [T2.kept.free _ hql hqo]; exact hqf
  have hl2 : q < w2.heap.size := Nat.lt_of_lt_of_le hql T2.kept.size
  have HC2 := Lib.hid ((⟨hC2.kind, hC2.pw, hC2.tf, hC2.says, by obtain ⟨l, _, _, h3⟩ := hC2.abs; cases h3; exact ⟨[], by obtain ⟨l', h1, _, h3'⟩ := hC2.abs; cases h3'; exact ⟨h1.len, h1.cap, h1.wid, fun i j x hx => by simp at hx⟩, .inl rfl, .nil⟩⟩ : CardOk w2 w.heap.size cc ⟨0, 0, 0, 0, []⟩))
  have HT2 := Lib.hid T2
  have hu0 : usesN [] wh = [] := rfl
  rw [hu0] at HUs
  clear hE T2 HF hqb hqf hql hqo hC2 hG
  go_wp2_with (go_at_call 85; refine (HUs.out _ _ _ (HC2.out.grow grI)).mono ?_; rintro e' w' ⟨s, rfl, hI, _, n2, rfl⟩; have hsn := hI.len; clear hI)
  go_loopw [32] (fun i wr => i = .int .i64 0 ∧ wr = w2.plus n2) (fun i _ => 0)
  case atStart => exact ⟨rfl, rfl⟩
  case round =>
    obtain ⟨rfl, rfl⟩ := hrel
    go_wp2_with fail
    go_end0
    exact ⟨rfl, EPost.low HG.out ((HT2.out.post (Grow.refl _)).more grI)⟩
theorem await_all (w : World) (b : Nat) (own : Nat → Prop) (E : Em) (R : Emt w b own E) (n : Nat) (K : EmOk E n) (hn : n + 2 ≤ 1000000) (a : Nat) (ha : a < E.now.objs.length) (wh ctl : Int) :
    Calls Tryz.prog 93 #[.pointer (some ⟨b, 0, none⟩), .int .i64 (a : Int), .int .i64 wh, .int .i64 ctl] w fun r w' => r = .returned (.tuple #[]) ∧ EPost w b own (E.await a wh ctl) w' := by
  by_cases h : 0 ≤ gt (rowAt E.now.objs a) 0 ∧ gt (rowAt E.now.objs a) 0 < 120
  · exact await_any w b own E R n K hn a ha h.1 h.2 wh ctl
  · exact await_none w b own E R a ha h wh ctl
end Go.Proofs.YtgobdndjemicjaaGreatDoor
