/-
  The walks of the document's Set and Game.
  The walks of the document's Player and Life.
  The walk of the document's New.
  A right state read off the document's emitter, which its turns leave as it is.
-/
import Derived.Test.YtnjdkkgkaafdbaaGreatDoorMF1
import Derived.Test.YtnjdkkgkaafdbaaGreatDoorMEmPl
import Derived.Test.YtnjdkkgkaafdbaaGreatDoorMEmNew
import Derived.Test.YtnjdkkgkaafdbaaGreatDoorMRefChk
import Derived.Test.YtnjdkkgkaafdbaaGreatDoorMComb
namespace Go.Proofs.YtnjdkkgkaafdbaaGreatDoor
open Go Go.RowKit Go.Shelf

@[go_sem] theorem run_build_gObj (w : World) (a f n : Int) : (bdRow 129 #[(0, .int .i64 2), (1, .int .i64 a), (2, .int .i64 f), (4, .int .i64 n)]).run Tryz.prog w = .ok (.value (.agg (cellsOf [2, a, f, 0, n, 0]))) w := by kernel_rfl
@[go_sem] theorem run_build_gGame (w : World) (f n : Int) : (bdRow 129 #[(0, .int .i64 4), (2, .int .i64 f), (4, .int .i64 n)]).run Tryz.prog w = .ok (.value (.agg (cellsOf [4, 0, f, 0, n, 0]))) w := by kernel_rfl
set_option maxRecDepth 100000 in
set_option maxHeartbeats 4000000 in
theorem gset_any (w : World) (b : Nat) (own : Nat → Prop) (E : Em) (R : Gmt w b own E) (hS : Small E.now) (hev : E.err = 0 → E.evs.length < 65536) (a f : Nat) (v : Int) (ha : a < E.now.objs.length) (hf : f < 18) (h3 : f ≠ 3) (hv : -1073741824 ≤ v ∧ v ≤ 1073741824) :
    Calls Tryz.prog 50 #[.pointer (some ⟨b, 0, none⟩), .int .i64 (a : Int), .int .i64 (f : Int), .int .i64 v] w fun r w' => r = .returned (.tuple #[]) ∧ DPost w b own (E.setObj a f v) w' := by
  have HR0 := Lib.hid R
  have HCk := Lib.hid (fun W => by have := check12_any [2, (a : Int), (f : Int), 0, v, 0] rfl W; rw [check_set19 a f 0 v hf h3 hv] at this; exact this)
  have HD := Lib.hid (fun W (g : Grow w W) u => gdo_any W b own E (R.grow g) hS hev [2, (a : Int), (f : Int), u, v, 0] rfl (by simp [gt]) (by simp [gt]))
  have HT := Lib.hid (setObj_is E a f v ha hf h3 hv)
  have h2 := fun (h : E.err ≠ 0) e => do1_err h e
  have HE := Lib.hid h2
  obtain ⟨V, sd, se, sp, hr, ho⟩ := R
  have hoc := hr.host.rep.objs.cell a f ha (by omega)
  have hN := hr.host.rep.objs.len
  have hob := (cell_blk hoc).1
  have hH := hr.host
  have hcell := cell_of_blk (hH).free (hH).blk; have hfz := frozen_of_free (hH).free; have hset := setCell_of_blk (hH).free (hH).blk; have hblk := (hH).blk; have hfree := (hH).free; have hlt := (hH).lt; have hne1 : ¬ b = (w).heap.size := (by omega); have hne2 : ¬ (w).heap.size = b := (by omega)
  have ha1 : (a : Int) < (E.now.objs.length : Int) := by omega
  have ha0 : (0 : Int) ≤ (a : Int) := by omega
  have hf1 : (f : Int) < 18 := by omega
  have hf0 : (0 : Int) ≤ (f : Int) := by omega
  clear hr ho hH hblk hS hev h2 hset
  generalize gt (rowAt E.now.objs a) f = u at *
  by_cases hx : u = v
  · have hT2 : Hid (E.setObj a f v = E) := by rw [Hid, HT.out, if_pos hx]; split <;> rfl
    have hxb : (u == v) = true := by simpa using hx
    clear hx
    rw [hT2.out]
    have hg : gt [2, (a : Int), (f : Int), u, v, 0] 3 = u := rfl
    go_enter Tryz.func50, Tryz.ntmps50
    go_wp2_with (go_at_call 90; refine (HCk.out _).mono ?_; rintro e' w' ⟨rfl, nx, rfl⟩)
    refine bodyPost_ret (results_none rfl _ _ _) rfl ?_
    exact ⟨rfl, .of_grow HR0.out grI⟩
  · have hT2 : Hid (E.setObj a f v = E.do1 [2, (a : Int), (f : Int), u, v, 0]) := by
      rw [Hid, HT.out, if_neg hx]
      split
      · rw [HE.out (by assumption)]
      · rfl
    have hxb : (u == v) = false := by simpa using hx
    clear hx
    rw [hT2.out]
    have hg : gt [2, (a : Int), (f : Int), u, v, 0] 3 = u := rfl
    go_enter Tryz.func50, Tryz.ntmps50
    go_wp2_with (first | (go_at_call 90; refine (HCk.out _).mono ?_; rintro e' w' ⟨rfl, nx, rfl⟩) | (go_at_call 91; refine (HD.out _ grI u).mono ?_; rintro r w' ⟨rfl, hP⟩; have HP := Lib.hid hP; clear hP))
    go_end0
    exact ⟨rfl, DPost.low grI HP.out⟩
end Go.Proofs.YtnjdkkgkaafdbaaGreatDoor
namespace Go.Proofs.YtnjdkkgkaafdbaaGreatDoor
open Go Go.RowKit Go.Shelf

@[go_sem] theorem run_build_gPl (w : World) (a f n : Int) : (bdRow 129 #[(0, .int .i64 3), (1, .int .i64 a), (2, .int .i64 f), (4, .int .i64 n)]).run Tryz.prog w = .ok (.value (.agg (cellsOf [3, a, f, 0, n, 0]))) w := by kernel_rfl
set_option maxRecDepth 100000 in
set_option maxHeartbeats 4000000 in
theorem gpl_any (w : World) (b : Nat) (own : Nat → Prop) (E : Em) (R : Gmt w b own E) (hS : Small E.now) (hev : E.err = 0 → E.evs.length < 65536) (p f : Nat) (v : Int) (hp : p < 2) (hf : f < 9) (hv : -1073741824 ≤ v ∧ v ≤ 1073741824) :
    Calls Tryz.prog 88 #[.pointer (some ⟨b, 0, none⟩), .int .i64 (p : Int), .int .i64 (f : Int), .int .i64 v] w fun r w' => r = .returned (.tuple #[]) ∧ DPost w b own (E.setPl p f v) w' := by
  have HR0 := Lib.hid R
  have HCk := Lib.hid (fun W => by have := check12_any [3, (p : Int), (f : Int), 0, v, 0] rfl W; rw [check_gpl p f 0 v hp hf hv] at this; exact this)
  have HD := Lib.hid (fun W (g : Grow w W) u => gdo_any W b own E (R.grow g) hS hev [3, (p : Int), (f : Int), u, v, 0] rfl (by simp [gt]) (by simp [gt]))
  have HT := Lib.hid (setPl_of E p f v hp hf hv)
  have h2 := fun (h : E.err ≠ 0) e => do1_err h e
  have HE := Lib.hid h2
  obtain ⟨V, sd, se, sp, hr, ho⟩ := R
  have hH := hr.host
  have hcell := cell_of_blk (hH).free (hH).blk; have hfz := frozen_of_free (hH).free; have hset := setCell_of_blk (hH).free (hH).blk; have hblk := (hH).blk; have hfree := (hH).free; have hlt := (hH).lt; have hne1 : ¬ b = (w).heap.size := (by omega); have hne2 : ¬ (w).heap.size = b := (by omega)
  have hoc : w.cell? ⟨b, 12 + p * 9 + f, none⟩ = some (I (E.now.num (p * 9 + f))) := by rw [hcell, show 12 + p * 9 + f = 12 + (p * 9 + f) by omega]; exact hoA_num _ _ _ _ (by omega)
  have hp1 : (p : Int) < 2 := by omega
  have hp0 : (0 : Int) ≤ (p : Int) := by omega
  have hf1 : (f : Int) < 9 := by omega
  have hf0 : (0 : Int) ≤ (f : Int) := by omega
  clear hr ho hH hblk hS hev h2 hset hcell
  generalize E.now.num (p * 9 + f) = u at *
  by_cases hx : u = v
  · have hT2 : Hid (E.setPl p f v = E) := by rw [Hid, HT.out, if_pos hx]; split <;> rfl
    have hxb : (u == v) = true := by simpa using hx
    clear hx
    rw [hT2.out]
    have hg : gt [3, (p : Int), (f : Int), u, v, 0] 3 = u := rfl
    go_enter Tryz.func88, Tryz.ntmps88
    go_wp2_with (go_at_call 90; refine (HCk.out _).mono ?_; rintro e' w' ⟨rfl, nx, rfl⟩)
    refine bodyPost_ret (results_none rfl _ _ _) rfl ?_
    exact ⟨rfl, .of_grow HR0.out grI⟩
  · have hT2 : Hid (E.setPl p f v = E.do1 [3, (p : Int), (f : Int), u, v, 0]) := by
      rw [Hid, HT.out, if_neg hx]
      split
      · rw [HE.out (by assumption)]
      · rfl
    have hxb : (u == v) = false := by simpa using hx
    clear hx
    rw [hT2.out]
    have hg : gt [3, (p : Int), (f : Int), u, v, 0] 3 = u := rfl
    go_enter Tryz.func88, Tryz.ntmps88
    go_wp2_with (first | (go_at_call 90; refine (HCk.out _).mono ?_; rintro e' w' ⟨rfl, nx, rfl⟩) | (go_at_call 91; refine (HD.out _ grI u).mono ?_; rintro r w' ⟨rfl, hP⟩; have HP := Lib.hid hP; clear hP))
    go_end0
    exact ⟨rfl, DPost.low grI HP.out⟩
theorem gsum_any (w : World) (a m lo hi : Int) (ha : -1073741824 ≤ a ∧ a ≤ 1073741824) : Calls Tryz.prog 89 #[.int .i64 a, .int .i64 m, .int .i64 lo, .int .i64 hi] w fun e w' => e = .returned (.int .i64 (betw (a + betw m (-4294967296) 4294967296) lo hi)) ∧ Grow w w' := by
  have hb : -4294967296 ≤ max (min m 4294967296) (-4294967296) ∧ max (min m 4294967296) (-4294967296) ≤ 4294967296 := by omega
  have hw : wrap64 (a + max (min m 4294967296) (-4294967296)) = a + max (min m 4294967296) (-4294967296) := by unfold wrap64; omega
  unfold betw
  clear ha hb
  go_enter Tryz.func89, Tryz.ntmps89
  go_wp2_with fail
  go_ret
  exact ⟨rfl, grI⟩
/-- Is there such a player, in the document's emitter without an error? -/
theorem gis_good (w : World) (b : Nat) (own : Nat → Prop) (E : Em) (R : Gmt w b own E) (he : E.err = 0) (p : Int) (hp : p = 0 ∨ p = 1) :
    Calls Tryz.prog 87 #[.pointer (some ⟨b, 0, none⟩), .int .i64 p] w fun e w' => e = .returned (.bool true) ∧ Grow w w' := by
  obtain ⟨V, sd, se, sp, hr, ho⟩ := R
  obtain ⟨_, _, _, h40⟩ := hr.cells
  have hlt := hr.host.lt
  rw [he] at h40
  clear hr ho he
  rcases hp with rfl | rfl
  · go_enter Tryz.func87, Tryz.ntmps87
    go_wp2_with fail
    go_ret
    exact ⟨rfl, grI⟩
  · go_enter Tryz.func87, Tryz.ntmps87
    go_wp2_with fail
    go_ret
    exact ⟨rfl, grI⟩
theorem betw_same (u more : Int) (hu : -1073741824 ≤ u ∧ u ≤ 1073741824) : betw (u + betw more (-4294967296) 4294967296) (-1073741824) 1073741824 = betw (u + betw more (-2147483648) 2147483648) (-1073741824) 1073741824 := by unfold betw; omega
set_option maxRecDepth 100000 in
set_option maxHeartbeats 4000000 in
theorem glife_good (w : World) (b : Nat) (own : Nat → Prop) (E : Em) (R : Gmt w b own E) (he : E.err = 0) (hS : Small E.now) (hev : E.err = 0 → E.evs.length < 65536) (p : Nat) (hp : p < 2) (hv : -1073741824 ≤ E.now.num (p * 9) ∧ E.now.num (p * 9) ≤ 1073741824) (more : Int) :
    Calls Tryz.prog 49 #[.pointer (some ⟨b, 0, none⟩), .int .i64 (p : Int), .int .i64 more] w fun r w' => r = .returned (.tuple #[]) ∧ DPost w b own (E.life p more) w' := by
  have HP := Lib.hid (fun W (g : Grow w W) => gis_good W b own E (R.grow g) he (p : Int) (by omega))
  have HB := Lib.hid (fun W => gsum_any W (E.now.num (p * 9)) more (-1073741824) 1073741824 hv)
  have HS := Lib.hid (fun W (g : Grow w W) => gpl_any W b own E (R.grow g) hS hev p 0 (betw (E.now.num (p * 9) + betw more (-4294967296) 4294967296) (-1073741824) 1073741824) hp (by decide) (by unfold betw; omega))
  have HE0 : Hid (E.life p more = E.setPl p 0 (betw (E.now.num (p * 9) + betw more (-4294967296) 4294967296) (-1073741824) 1073741824)) := by
    rw [Hid, betw_same _ _ hv]
    unfold Em.life
    rw [if_neg (by rw [he]; simp), if_neg (by omega), Int.toNat_natCast]
  obtain ⟨V, sd, se, sp, hr, ho⟩ := R
  have hH := hr.host
  have hcell := cell_of_blk (hH).free (hH).blk; have hfz := frozen_of_free (hH).free; have hset := setCell_of_blk (hH).free (hH).blk; have hblk := (hH).blk; have hfree := (hH).free; have hlt := (hH).lt; have hne1 : ¬ b = (w).heap.size := (by omega); have hne2 : ¬ (w).heap.size = b := (by omega)
  have hcc : w.cell? ⟨b, 12 + p * 9, none⟩ = some (I (E.now.num (p * 9))) := by rw [hcell, hoA_lt _ _ _ _ (by omega), stA_num _ _ _ (by omega)]
  have hpi : (p : Int) < 2 := by omega
  have hp0 : (0 : Int) ≤ (p : Int) := by omega
  clear hr ho hH hblk he hcell hset hv hS hev
  rw [HE0.out]
  generalize betw (E.now.num (p * 9) + betw more (-4294967296) 4294967296) (-1073741824) 1073741824 = v at *
  generalize E.now.num (p * 9) = u at *
  go_enter Tryz.func49, Tryz.ntmps49
  go_wp2_with (first | (go_at_call 87; refine (HP.out _ grI).mono ?_; rintro e' w' ⟨rfl, nx, rfl⟩) | (go_at_call 89; refine (HB.out _).mono ?_; rintro e' w' ⟨rfl, nx, rfl⟩) | (go_at_call 88; refine (HS.out _ grI).mono ?_; rintro e' w2 ⟨rfl, hE⟩; have HE := Lib.hid hE; clear hE))
  go_end0
  exact ⟨rfl, DPost.low grI HE.out⟩
/-- The document's Fail. -/
theorem gfail_any (w : World) (b : Nat) (own : Nat → Prop) (E : Em) (R : Gmt w b own E) (n : Int) :
    Calls Tryz.prog 60 #[.pointer (some ⟨b, 0, none⟩), .int .i64 n] w fun e w' => e = .returned (.tuple #[]) ∧ DPost w b own (E.fail n) w' := by
  have HR0 := Lib.hid R
  obtain ⟨V, sd, se, sp, hr, ho⟩ := R
  obtain ⟨_, _, _, h40⟩ := hr.cells
  have hH := hr.host
  have hcell := cell_of_blk (hH).free (hH).blk; have hfz := frozen_of_free (hH).free; have hset := setCell_of_blk (hH).free (hH).blk; have hblk := (hH).blk; have hfree := (hH).free; have hlt := (hH).lt; have hne1 : ¬ b = (w).heap.size := (by omega); have hne2 : ¬ (w).heap.size = b := (by omega)
  have hs := hset 40 (I n)
  rw [hoAg_s40] at hs
  have HR := Lib.hid hr
  have HO := Lib.hid ho
  unfold Em.fail
  clear hr ho hH hblk hset hcell
  by_cases he : E.err = 0
  · rw [if_pos he]
    have hb : (E.err == 0) = true := by simpa using he
    clear he
    go_enter Tryz.func60, Tryz.ntmps60
    go_wp2_with fail
    go_end0
    exact ⟨rfl, Gmt.setErr HR.out HO.out n grI⟩
  · rw [if_neg he]
    have hb : (E.err == 0) = false := by simpa using he
    clear he
    go_enter Tryz.func60, Tryz.ntmps60
    go_wp2_with fail
    go_end0
    exact ⟨rfl, .of_grow HR0.out grI⟩
end Go.Proofs.YtnjdkkgkaafdbaaGreatDoor
namespace Go.Proofs.YtnjdkkgkaafdbaaGreatDoor
open Go Go.RowKit Go.Shelf

@[go_sem ↓] theorem build_GDoc (ρ : Operand → Value) (dst : Option Tmp) (parts : Array (Nat × Operand)) (ty : TypeId) (pos : String) (after : Array Edge) (guard : Option (Nat × Bool)) :
    execOp ρ { dst, op := .build 78 parts, type := ty, pos, after, guard } = bdRow 78 (parts.map fun (i, x) => (i, ρ x)) := rfl
set_option maxRecDepth 100000 in
@[go_sem] theorem run_build_gdoc (w : World) (V : SV) (num : Nat → Int) (n : Int) : (bdRow 78 #[(0, .agg (stA V num)), (1, .slice none 0 0), (4, .int .i64 n)]).run Tryz.prog w = .ok (.value (.agg (hoA V num (gR .nil .nil .nil n)))) w := by
  unfold gR
  kernel_rfl
theorem g_fresh {w : World} {S : St} {V' : SV} {t : TypeId} (n : Int) (hR : RepSt w V' S) (hU : ∀ k, V'.uses k → k < w.heap.size) :
    Gmt (w.alloc (.cells (hoA V' S.num (gR .nil .nil .nil n)) t)) w.heap.size (gOwn w.heap.size V' .nil .nil .nil) ⟨S, [], [], [], n⟩ := by
  have hg : Grow w (w.alloc (.cells (hoA V' S.num (gR .nil .nil .nil n)) t)) := (Grow.refl _).alloc _
  refine ⟨V', .nil, .nil, .nil, ⟨⟨by rw [blk_alloc, if_pos rfl], by rw [free_alloc, if_pos rfl]; rfl, hR.grow hg, fun h => ?_, fun k hk => ?_⟩, Ints.nil _, Rows'.nil _ _, Room.nil _ _, Rows'.nil _ _, Room.nil _ _, fun _ h => h.elim, fun _ h => h.elim, fun _ h => h.elim, fun h => h.elim, fun h => h.elim, fun h => h.elim, fun _ _ => ⟨fun h => h.elim, fun h => h.elim⟩, fun _ h => h.elim, fun _ h => h.elim⟩, fun _ => Iff.rfl⟩
  · have := hU _ h; omega
  · have := hU _ hk; rw [alloc_size']; omega
set_option maxRecDepth 100000 in
set_option maxHeartbeats 4000000 in
theorem gnew_any (S : St) (V : SV) (w : World) (R : RepSt w V S) (hS : Small S) :
    Calls Tryz.prog 16 #[.agg (stA V S.num), .slice none 0 0] w fun e w' => ∃ b own, e = .returned (.pointer (some ⟨b, 0, none⟩)) ∧ Gmt w' b own (Em.new S []) ∧ (∀ k, own k → w.heap.size ≤ k ∧ k < w'.heap.size) ∧ Grow w w' := by
  have HR := Lib.hid R
  have HS := Lib.hid hS
  rw [new_nil]
  have HCh := Lib.hid (fun W (g : Grow w W) => refCheck_any S V W (R.grow g) hS)
  generalize checkN S = n at *
  clear R hS
  go_enter Tryz.func16, Tryz.ntmps16
  go_wp2_with fail
  go_region_held3 (fun W => W.blk w.heap.size = stA V S.num) (simp [go_sem, *]) (first | (go_at_call 47; refine (ncopy_any S V _ (HR.out.grow grI) HS.out).mono ?_; rintro e' w' ⟨V', rfl, hF, nx, rfl⟩; (try simp only [drew_plus] at hF); (try simp only [plus_plus] at hF); have HF := Lib.hid hF; clear hF) | (go_at_call 28; refine (HCh.out _ grI).mono ?_; rintro e' w' ⟨rfl, ny, rfl⟩))
  all_goals
    have hF := HF.out
    rw [show ((w.alloc (.cells (stA V S.num) 29)).drew.heap.size) = w.heap.size + 1 from alloc_size' _ _] at hF
    have hrep : RepSt ((w.alloc (.cells (stA V S.num) 29)).plus (nx.late.and ny)) V' S := hF.rep.grow grI
    have hu : ∀ k, V'.uses k → w.heap.size + 3 ≤ k ∧ k < ((w.alloc (.cells (stA V S.num) 29)).plus (nx.late.and ny)).heap.size := fun k hk => by
      have h1 := hF.own k hk
      simp only [plus_size, alloc_size', Ext.and, Array.size_append] at h1 ⊢
      exact ⟨by omega, by omega⟩
    have hg := g_fresh (t := 78) n hrep (fun k hk => (hu k hk).2)
    have hsz : ((w.alloc (.cells (stA V S.num) 29)).plus (nx.late.and ny)).heap.size = w.heap.size + 1 + (nx.late.and ny).objs.size := by simp only [plus_size, alloc_size']
    rw [hsz] at hg
    have hown : ∀ k, gOwn (w.heap.size + 1 + (nx.late.and ny).objs.size) V' .nil .nil .nil k → w.heap.size ≤ k := fun k hk => by
      rcases hk with h | h | h | h | h
      · omega
      · have := (hu k h).1; omega
      · exact h.elim
      · exact h.elim
      · exact h.elim
    have hc : (hoA V' S.num (gR .nil .nil .nil n))[40]? = some (I n) := by rw [show 40 = 37 + 3 from rfl, hoA_rest]; rfl
    have HG := Lib.hid hg
    have HO := Lib.hid hown
    clear hF hrep hu hg hsz hown HF
    by_cases hn : n = 0
    · have hnb : (n == 0) = true := by simpa using hn
      clear hn
      go_wp2_with fail
      go_ret
      exact ⟨_, _, rfl, HG.out.grow grI, fun k hk => ⟨HO.out k hk, (HG.out.grow grI).lt k hk⟩, grI⟩
    · have hnb : (n == 0) = false := by simpa using hn
      clear hn
      go_wp2_with fail
      go_ret
      exact ⟨_, _, rfl, HG.out.grow grI, fun k hk => ⟨HO.out k hk, (HG.out.grow grI).lt k hk⟩, grI⟩
end Go.Proofs.YtnjdkkgkaafdbaaGreatDoor
namespace Go.Proofs.YtnjdkkgkaafdbaaGreatDoor
open Go Go.RowKit Go.Shelf

/-- A right state read off the document's emitter, which its turns leave as it is. -/
structure SideG (w : World) (b : Nat) (own : Nat → Prop) (S : St) (V : SV) : Prop where
  rs : RS S V w
  ap : ∀ k, V.uses k → ¬ Wr w b k ∧ k < w.heap.size
  vars : ∀ k, (k = 0 ∨ k = 1 ∨ k = 2) → ¬ own k
theorem SideG.turn {w w' : World} {b : Nat} {own own' : Nat → Prop} {S : St} {V : SV} (h : SideG w b own S V) (hb : b < w.heap.size) (k : Kept own w w') (o : ∀ j, own' j → own j ∨ w.heap.size ≤ j) (f : FPost w b w') : SideG w' b own' S V := by
  obtain ⟨s1, s2, s3⟩ := h.rs.glob.size
  have hs := k.size
  refine ⟨⟨f.rep hb h.rs.rep (fun j hj => (h.ap j hj).1), h.rs.right, h.rs.small, ⟨⟨by omega, by omega, by omega⟩, by rw [k.blk _ s1 (h.vars _ (.inl rfl)), h.rs.glob.resting], by rw [k.blk _ s2 (h.vars _ (.inr (.inl rfl))), h.rs.glob.flag], by rw [k.blk _ s3 (h.vars _ (.inr (.inr rfl))), h.rs.glob.any]⟩⟩, fun j hj => ⟨fun h2 => ?_, by have := (h.ap j hj).2; omega⟩, fun j hj h2 => ?_⟩
  · rcases (f hb).2 j h2 with h3 | h3
    · exact (h.ap j hj).1 h3
    · have := (h.ap j hj).2; omega
  · rcases o j h2 with h3 | h3
    · exact h.vars j hj h3
    · rcases hj with rfl | rfl | rfl <;> omega
theorem SideG.grow {w w' : World} {b : Nat} {own : Nat → Prop} {S : St} {V : SV} (h : SideG w b own S V) (hb : b < w.heap.size) (g : Grow w w') : SideG w' b own S V := h.turn hb (g.kept own) (fun _ h => .inl h) (.grow g)
/-- What a hit drains, behind what it did: the document's last steps of a round. -/
theorem SideG.of_em {w : World} {b : Nat} {own : Nat → Prop} {V : SV} {sd se sp : Sl} {E : Em} (hr : RepD w b V sd se sp E) (hR : Right E.now) (hS : Small E.now) (GL : Glob w) (hv : ∀ k, (k = 0 ∨ k = 1 ∨ k = 2) → ¬ own k) : SideG w b own E.now V :=
  ⟨⟨hr.host.rep, hR, hS, GL⟩, fun k hk => ⟨hr.wr k hk, hr.host.in' k hk⟩, hv⟩
end Go.Proofs.YtnjdkkgkaafdbaaGreatDoor
