/-
  The walk of the law JudgeKeeps.
-/
import Derived.Test.YtmmkmhpchoelkaaDoorJKAlive
import Derived.Test.YtmmkmhpchoelkaaDoorRefChk
import Derived.Test.YtmmkmhpchoelkaaDoorCheck
namespace Go.Proofs.YtmmkmhpchoelkaaDoor
open Go Go.RowKit Go.Shelf

theorem long_small {S : St} (h : longB S 40 = false) : SmallN S 50 := by
  unfold longB longTo at h
  rw [Bool.or_eq_false_iff] at h
  refine ⟨by have := h.1; simp at this; omega, fun z hz => ?_⟩
  have h2 := h.2
  rw [List.any_eq_false] at h2
  have := h2 z (List.mem_range.2 hz)
  simp at this; omega
theorem jk_ok0 {S : St} (h : SmallN S 100000) : GmOk { now := S, draws := [], jn := ⟨[], [], 0⟩ } :=
  ⟨⟨fun i j _ h => by simp at h, fun i h => by simp at h, fun i j _ h => by simp at h, fun i h => by simp at h, Int.le_refl _, by simp, by simp, by simp⟩, h, by simp⟩
theorem rowAt_snoc (l : List (List Int)) (r : List Int) (i : Nat) (h : i ≤ l.length) : rowAt (l ++ [r]) i = if i = l.length then r else rowAt l i := by
  unfold rowAt List.getD
  by_cases e : i = l.length
  · subst e; simp
  · rw [if_neg e, List.getElem?_append_left (by omega)]
theorem JnOk.commit {J : Jn} (K : JnOk J) (l : List (List Int)) (hl : (l.length : Int) ≤ 65536 - J.evs.length) (h1 : J.last < 1000000) (h2 : J.marks.length < 1000000) : JnOk (J.mark.add l) := by
  have hm : (J.mark.add l).marks = J.marks ++ [[J.last + 1, (J.evs.length : Int)]] := rfl
  have hlen : (J.mark.add l).marks.length = J.marks.length + 1 := by rw [hm, List.length_append]; rfl
  have he : (J.mark.add l).evs.length = J.evs.length + l.length := by show (J.evs ++ l).length = _; rw [List.length_append]
  have hr : ∀ i, i ≤ J.marks.length → rowAt (J.mark.add l).marks i = if i = J.marks.length then [J.last + 1, (J.evs.length : Int)] else rowAt J.marks i := fun i hi => rowAt_snoc _ _ _ hi
  have g0 : gt [J.last + 1, (J.evs.length : Int)] 0 = J.last + 1 := rfl
  have g1 : gt [J.last + 1, (J.evs.length : Int)] 1 = J.evs.length := rfl
  have hlast : (J.mark.add l).last = J.last + 1 := rfl
  refine ⟨fun i j hij hj => ?_, fun i hi => ?_, fun i j hij hj => ?_, fun i hi => ?_, by rw [hlast]; have := K.last0; omega, by rw [hlast]; omega, by rw [hlen]; omega, by rw [he]; omega⟩
  · rw [hlen] at hj
    rw [hr i (by omega), hr j (by omega), if_neg (by omega)]
    by_cases e : j = J.marks.length
    · rw [if_pos e, g0]; have := K.below i (by omega); omega
    · rw [if_neg e]; exact K.sorted i j hij (by omega)
  · rw [hlen] at hi
    rw [hr i (by omega), he]
    by_cases e : i = J.marks.length
    · rw [if_pos e, g1]; omega
    · rw [if_neg e]; have := K.behind i (by omega); omega
  · rw [hlen] at hj
    rw [hr i (by omega), hr j (by omega)]
    by_cases e : j = J.marks.length
    · rw [if_pos e, g1]
      by_cases e2 : i = J.marks.length
      · rw [if_pos e2, g1]; exact Int.le_refl _
      · rw [if_neg e2]; exact (K.behind i (by omega)).2
    · rw [if_neg e, if_neg (by omega)]; exact K.mono i j hij (by omega)
  · rw [hlen] at hi
    rw [hr i (by omega), hlast]
    by_cases e : i = J.marks.length
    · rw [if_pos e, g0]; exact Int.le_refl _
    · rw [if_neg e]; have := K.below i (by omega); omega
theorem GmOk.commit {G : Gs} (K : GmOk G) (S' : St) (l : List (List Int)) (hs : SmallN S' 100000) (hl : (l.length : Int) ≤ 65536 - G.jn.evs.length) (h1 : G.jn.last < 1000000) (h2 : G.jn.marks.length < 1000000) : GmOk (G.commit S' l) := ⟨K.jn.commit l hl h1 h2, hs, K.draws⟩
theorem jk_live {S1 : St} {ev : List Int} {S : St} : (Gs.commit { now := S, draws := [], jn := ⟨[], [], 0⟩ } S1 [ev]).jn.live 1 := by
  show ahead [[0 + 1, 0]] 1 < 1 ∧ gt (rowAt [[0 + 1, 0]] (ahead [[0 + 1, 0]] 1)) 0 = 1
  decide
theorem jk_span {S1 : St} {ev : List Int} {S : St} : (Gs.commit { now := S, draws := [], jn := ⟨[], [], 0⟩ } S1 [ev]).jn.span 1 = [ev] := rfl
theorem run_part_row {P : Program} (w : World) (e k o : Nat) (cs : Array Value) (ha : (isAgg e).run P w = .ok true w) (hs : (sizeOf e).run P w = .ok k w) : (part e cs o).run P w = .ok (.agg (sub cs o k)) w := by
  unfold part
  rw [Sem.run_bind, ha]
  simp only [Result.andThen_ok, if_true, Sem.run_bind, hs, sub, Sem.run_pure]
@[go_sem] theorem eqIn_players (w : World) (a : List Int) (ha : a.length = 18) : (Op.equalIn 10000 26 (.agg (cellsOf a)) (.agg (cellsOf a))).run Tryd.prog w = .ok true w := by
  have hsub : ∀ i, i < 2 → sub (cellsOf a) (i * 9) 9 = cellsOf ((a.drop (i * 9)).take 9) := fun i hi => by
    apply Array.ext_getElem?
    intro j
    unfold sub
    rw [Array.getElem?_extract]
    simp only [cellsOf, List.getElem?_toArray, List.getElem?_map, List.getElem?_take, List.getElem?_drop, List.size_toArray, List.length_map, ha]
    by_cases hj : j < 9
    · rw [if_pos (by omega), if_pos hj]
    · rw [if_neg (by omega), if_neg hj]; rfl
  have := run_equalIn_array w 26 25 2 9 Tryd.underlying26 (by kernel_rfl) 9999 (cellsOf a) (cellsOf a) (fun _ => true) (fun i hi => ⟨_, _, run_part_row w _ 9 _ _ (by kernel_rfl) (by kernel_rfl), run_part_row w _ 9 _ _ (by kernel_rfl) (by kernel_rfl), by
    rw [hsub i hi, show (9999 : Nat) = 9997 + 2 from rfl, run_equalIn_ints w 25 3 9 Tryd.underlying25 Tryd.underlying3 (by kernel_rfl) 9997 _ _ (by rw [List.length_take, List.length_drop, ha]; omega) (by rw [List.length_take, List.length_drop, ha]; omega)]
    simp⟩)
  rw [show (10000 : Nat) = 9999 + 1 from rfl, this]
  rfl
@[go_sem] theorem eqIn_game (w : World) (a b : List Int) (ha : a.length = 7) (hb : b.length = 7) : (Op.equalIn 10000 27 (.agg (cellsOf a)) (.agg (cellsOf b))).run Tryd.prog w = .ok (decide (a = b)) w :=
  run_equalIn_ints w 27 3 7 Tryd.underlying27 Tryd.underlying3 (by kernel_rfl) 9998 a b ha hb
theorem mod_two (many : Int) : ∃ p : Nat, p < 2 ∧ wrap64 ((IntKind.u64.wrap many).tmod 2) = (p : Int) := by
  have h0 : 0 ≤ IntKind.u64.wrap many := by simp [IntKind.wrap, IntKind.signed, IntKind.bits]; omega
  have h1 := Int.tmod_nonneg 2 h0
  have h2 := Int.tmod_lt_of_pos (IntKind.u64.wrap many) (show (0 : Int) < 2 by omega)
  generalize (IntKind.u64.wrap many).tmod 2 = v at *
  have : v = 0 ∨ v = 1 := by omega
  rcases this with rfl | rfl
  · exact ⟨0, by omega, by simp [wrap64]⟩
  · exact ⟨1, by omega, by simp [wrap64]⟩
set_option maxRecDepth 100000 in
set_option maxHeartbeats 4000000 in
theorem jk_any (S : St) (V : SV) (w : World) (R : RepSt w V S) (GL : Glob w) (many draw : Int) :
    Calls Tryd.prog 3 #[.agg (stA V S.num), .int .i64 many, .int .i64 draw] w fun e w' => e = .returned (.bool true) ∧ Grow w w' := by
  have HAl := Lib.hid (fun W => alive_any W)
  have HLo := Lib.hid (fun W (g : Grow w W) => long_any S V 40 (by omega) W (R.grow g))
  have HR := Lib.hid R
  cases hl : longB S 40 with
  | true =>
    rw [hl] at HLo
    clear R GL hl
    go_enter Tryd.func3, Tryd.ntmps3
    go_wp2_with (first | (go_at_call 5; refine (HAl.out _).mono ?_; rintro e' w' ⟨rfl, nx, rfl⟩) | (go_at_call 6; refine (HLo.out _ (by repeat (first | exact Grow.refl _ | refine Grow.andr ?_ | refine Grow.plus ?_ _ | refine Grow.alloc ?_ _ | refine Grow.drew ?_ | refine Grow.drewN ?_ _))).mono ?_; rintro e' w' ⟨rfl, nx, rfl⟩))
    go_ret
    exact ⟨rfl, (by repeat (first | exact Grow.refl _ | refine Grow.andr ?_ | refine Grow.plus ?_ _ | refine Grow.alloc ?_ _ | refine Grow.drew ?_ | refine Grow.drewN ?_ _))⟩
  | false =>
  have hsm := long_small hl
  have HRef := Lib.hid (fun W (g : Grow w W) => refCheck_any S V W (R.grow g) (hsm.small (by omega)))
  rw [hl] at HLo
  clear hl
  by_cases hck : checkN S = 0
  · rw [hck] at HRef
    have HCK := Lib.hid hck
    have HSM := Lib.hid hsm
    have HGL := Lib.hid GL
    clear R GL hck hsm
    go_enter Tryd.func3, Tryd.ntmps3
    go_wp2_with (first | (go_at_call 5; refine (HAl.out _).mono ?_; rintro e' w' ⟨rfl, na, rfl⟩) | (go_at_call 6; refine (HLo.out _ (by repeat (first | exact Grow.refl _ | refine Grow.andr ?_ | refine Grow.plus ?_ _ | refine Grow.alloc ?_ _ | refine Grow.drew ?_ | refine Grow.drewN ?_ _))).mono ?_; rintro e' w' ⟨rfl, nb, rfl⟩) | (go_at_call 7; refine (HRef.out _ (by repeat (first | exact Grow.refl _ | refine Grow.andr ?_ | refine Grow.plus ?_ _ | refine Grow.alloc ?_ _ | refine Grow.drew ?_ | refine Grow.drewN ?_ _))).mono ?_; rintro e' w' ⟨rfl, nx, rfl⟩))
    generalize (na.and nb).and nx = x
    obtain ⟨p, hp2, hpe⟩ := mod_two many
    rw [hpe]
    have hp11 : p < 11 := by omega
    have hq11 : 2 + p < 11 := by omega
    have hpi : (p : Int) < 11 := by omega
    have hqi : 2 + (p : Int) < 11 := by omega
    have hqn : (2 + (p : Int)).toNat = 2 + p := by omega
    have hq0 : 0 ≤ 2 + (p : Int) := by omega
    clear hpe
    rcases Nat.eq_zero_or_pos (S.list p).length with hz | hz
    · have hvn : (V.list p).n = 0 := by rw [(HR.out.list p hp11).len]; exact hz
      clear hz
      refine wp_region_grow (by kernel_rfl) (by kernel_rfl) ?_; (repeat (go_big_quiet_step ( fail ))); refine wpQuiet_nil ?_; rintro _ ⟨nx, rfl⟩
      go_wp2_with fail
      go_ret
      exact ⟨rfl, (by repeat (first | exact Grow.refl _ | refine Grow.andr ?_ | refine Grow.plus ?_ _ | refine Grow.alloc ?_ _ | refine Grow.drew ?_ | refine Grow.drewN ?_ _))⟩
    obtain ⟨n, hn⟩ : ∃ n, (S.list p).length = n + 1 := ⟨(S.list p).length - 1, by omega⟩
    obtain ⟨a, S1, T, l, xc, ha, haN, hrun1, hck1, hund, hdrw, hjev, hl3, hrunT, hB⟩ := jk_plain S ((checkN_zero S).1 HCK.out) HR.out.objs.wid p hp2 n hn draw
    have hvn : (V.list p).n = n + 1 := by rw [(HR.out.list p hp11).len]; exact hn
    have hvq : (V.list (2 + p)).n = (S.list (2 + p)).length := (HR.out.list (2 + p) hq11).len
    have hn50 : n + 1 ≤ 50 := by rw [← hn]; exact HSM.out.list p hp11
    have hh50 : (S.list (2 + p)).length ≤ 50 := HSM.out.list (2 + p) hq11
    obtain ⟨hvb, hva⟩ := (HR.out.list p hp11).at n (by omega)
    rw [ha] at hva
    have hvb1 : ¬ (V.list p).b = w.heap.size := by omega
    have i1 : (0 : Int) ≤ (n : Int) + 1 - 1 := by omega
    have i2 : (n : Int) + 1 - 1 < (n : Int) + 1 := by omega
    have i3 : ((n : Int) + 1 - 1).toNat = n := by omega
    have i4 : (n : Int) < (n : Int) + 1 := by omega
    have i5 : n < n + 1 := by omega
    have i6 : (0 : Int) ≤ (n : Int) := by omega
    have HRUN1 := Lib.hid hrun1
    have HCK1 := Lib.hid hck1
    have HUND := Lib.hid hund
    have HDRW := Lib.hid hdrw
    have HJEV := Lib.hid hjev
    have HRUNT := Lib.hid hrunT
    have HB := Lib.hid hB
    have HA := Lib.hid ha
    have HN := Lib.hid hn
    clear hrun1 hck1 hund hdrw hjev hrunT hB ha hz hn
    refine wp_region_grow (by kernel_rfl) (by kernel_rfl) ?_; (repeat (go_big_quiet_step ( fail ))); refine wpQuiet_nil ?_; rintro _ ⟨nx, rfl⟩
    go_wp2_with fail
    have hgA : Grow w ((w.alloc (.cells (stA V S.num) 29)).plus (x.and nx)) := (by repeat (first | exact Grow.refl _ | refine Grow.andr ?_ | refine Grow.plus ?_ _ | refine Grow.alloc ?_ _ | refine Grow.drew ?_ | refine Grow.drewN ?_ _))
    have HGA := Lib.hid hgA
    clear hgA
    refine (gopen_ok S V _ (HR.out.grow HGA.out) (HSM.out.small (by omega)) (HGL.out.grow HGA.out) HCK.out).mono ?_
    rintro e' w2 ⟨b, own, rfl, hG, hGo, ny, rfl⟩
    have HG := Lib.hid hG
    have HGO := Lib.hid hGo
    clear hG hGo
    have j1 : wrap64 ((n : Int) + 1 - 1) = n := by rw [show (n : Int) + 1 - 1 = n by omega]; simp [wrap64]; omega
    go_wp2_with fail
    have HE : Hid ([1, (a : Int), (p : Int), (n : Int), 2 + (p : Int), ((S.list (2 + p)).length : Int)].length = 6) := rfl
    generalize [1, (a : Int), (p : Int), (n : Int), 2 + (p : Int), ((S.list (2 + p)).length : Int)] = ev at *
    have hG3 := HG.out.grow (w' := ((w.alloc (.cells (stA V S.num) 29)).plus ((x.and nx).and ny)).alloc (.cells (cellsOf ev) 42)) (by rw [plus_plus]; exact (Grow.refl _).alloc _)
    have hg3 : Grow w (((w.alloc (.cells (stA V S.num) 29)).plus ((x.and nx).and ny)).alloc (.cells (cellsOf ev) 42)) := (by repeat (first | exact Grow.refl _ | refine Grow.andr ?_ | refine Grow.plus ?_ _ | refine Grow.alloc ?_ _ | refine Grow.drew ?_ | refine Grow.drewN ?_ _))
    have hgA3 : Grow (w.alloc (.cells (stA V S.num) 29)) (((w.alloc (.cells (stA V S.num) 29)).plus ((x.and nx).and ny)).alloc (.cells (cellsOf ev) 42)) := (by repeat (first | exact Grow.refl _ | refine Grow.andr ?_ | refine Grow.plus ?_ _ | refine Grow.alloc ?_ _ | refine Grow.drew ?_ | refine Grow.drewN ?_ _))
    have hrow : Rows' (((w.alloc (.cells (stA V S.num) 29)).plus ((x.and nx).and ny)).alloc (.cells (cellsOf ev) 42)) (.mk (w.heap.size + 1 + ((x.and nx).and ny).objs.size) 0 1 1) 6 [ev] :=
      (one_row _ _ 6 ev HE.out (by go_simp)).rows (by omega) (wid_of (fun r hr => by rw [List.mem_singleton] at hr; subst hr; exact HE.out))
    have hown : ∀ k, own k → w.heap.size + 1 ≤ k ∧ k < w.heap.size + 1 + ((x.and nx).and ny).objs.size := fun k hk => by
      have := HGO.out k hk
      simp only [plus_plus, plus_size, alloc_size'] at this
      omega
    have HOWN := Lib.hid hown
    have hk0 : GmOk { now := S, draws := [], jn := ⟨[], [], 0⟩ } := jk_ok0 (HSM.out.mono (by omega))
    refine (gcommit_ok _ b own { now := S, draws := [], jn := ⟨[], [], 0⟩ } hG3 hk0 (HGL.out.grow hg3) (.mk (w.heap.size + 1 + ((x.and nx).and ny).objs.size) 0 1 1) [ev] hrow (fun _ h => by have := (hown _ h).2; simp only [Sl.b] at this; omega) S1 HRUN1.out HCK1.out (by simp) (by show (0 : Int) < 1000000; omega) (by show 0 < 1000000; omega)).mono ?_
    rintro e' w4 ⟨rfl, own1, hG4, hK4, hO4⟩
    have hs3 : (((w.alloc (.cells (stA V S.num) 29)).plus ((x.and nx).and ny)).alloc (.cells (cellsOf ev) 42)).heap.size = w.heap.size + 1 + ((x.and nx).and ny).objs.size + 1 := by rw [alloc_size', plus_size, alloc_size']
    have ho4 : ∀ k, own1 k → w.heap.size + 1 ≤ k := fun k hk => by
      rcases hO4 k hk with h | h
      · exact (hown k h).1
      · omega
    have hg4 : Grow (w.alloc (.cells (stA V S.num) 29)) w4 := ((hgA3.kept (fun k => w.heap.size + 1 ≤ k)).trans hK4 (fun k _ h => (hown k h).1)).grow (fun k hk h => by rw [alloc_size'] at hk; omega)
    obtain ⟨y, rfl⟩ := hg4
    have HG4 := Lib.hid hG4
    have HO4 := Lib.hid ho4
    clear hG3 hg3 hgA3 hrow hown hk0 hG4 hK4 hO4 hs3 ho4
    go_wp2_with fail
    have hsS : SmallN S 100000 := HSM.out.mono (by omega)
    have hsS1 : SmallN S1 100000 := (run_small HSM.out HRUN1.out).mono (by simp)
    have hsT : SmallN T 100000 := (run_small HSM.out HRUNT.out).mono (by omega)
    have hk1 : GmOk (Gs.commit { now := S, draws := [], jn := ⟨[], [], 0⟩ } S1 [ev]) := (jk_ok0 hsS).commit S1 [ev] hsS1 (by simp) (by show (0 : Int) < 1000000; omega) (by show 0 < 1000000; omega)
    have hle : (l.length : Int) ≤ 65536 - ((Gs.commit { now := S, draws := [], jn := ⟨[], [], 0⟩ } S1 [ev]).jn.cut (ahead (Gs.commit { now := S, draws := [], jn := ⟨[], [], 0⟩ } S1 [ev]).jn.marks 1)).evs.length := by
      have : ((Gs.commit { now := S, draws := [], jn := ⟨[], [], 0⟩ } S1 [ev]).jn.cut (ahead (Gs.commit { now := S, draws := [], jn := ⟨[], [], 0⟩ } S1 [ev]).jn.marks 1)).evs.length = 0 := rfl
      rw [this]; omega
    have hgw : 2 < w.heap.size := HGL.out.size
    have hk2 : GmOk (((Gs.commit { now := S, draws := [], jn := ⟨[], [], 0⟩ } S1 [ev]).rewind S 1).commit T l) := (hk1.rewind 1 jk_live S hsS).commit T l hsT hle (by show (0 : Int) + 1 < 1000000; omega) (by show 1 < 1000000; omega)
    have HK2 := Lib.hid hk2
    clear hk2
    refine (backup_ok _ b own1 _ HG4.out hk1 (HGL.out.grow (by repeat (first | exact Grow.refl _ | refine Grow.andr ?_ | refine Grow.plus ?_ _ | refine Grow.alloc ?_ _ | refine Grow.drew ?_ | refine Grow.drewN ?_ _))) (fun k hk => by have := HO4.out k hk; omega) 1 draw jk_live S T a xc l (by rw [jk_span]; exact HUND.out) hsS (by rw [jk_span]; exact HDRW.out) HJEV.out HRUNT.out HB.out.check hle (by show (0 : Int) + 1 < 1000000; omega) (by show 1 < 1000000; omega)).mono ?_
    rintro e' w5 ⟨he, own2, hG5, hK5, hO5⟩
    have he2 : e' = .returned (.tuple #[.int .i64 2, .int .i64 xc, .nilIface]) := he
    clear he
    subst he2
    have hs5 := plus_size (w.alloc (.cells (stA V S.num) 29)) y
    rw [alloc_size'] at hs5
    have ho5 : ∀ k, own2 k → w.heap.size + 1 ≤ k := fun k hk => by
      rcases hO5 k hk with h | h
      · exact HO4.out k h
      · omega
    have hg5 : Grow (w.alloc (.cells (stA V S.num) 29)) w5 := ((Grow.kept (own := fun k => w.heap.size + 1 ≤ k) ⟨y, rfl⟩).trans hK5 (fun k _ h => HO4.out k h)).grow (fun k hk h => by rw [alloc_size'] at hk; omega)
    obtain ⟨y5, rfl⟩ := hg5
    have HG5 := Lib.hid hG5
    clear hG5 hK5 hO5 hs5 ho5 hk1 hle
    generalize hG2 : ((Gs.commit { now := S, draws := [], jn := ⟨[], [], 0⟩ } S1 [ev]).rewind S 1).commit T l = G2 at *
    have hnow : G2.now = T := by rw [← hG2]; rfl
    clear hG2
    go_wp2_with fail
    refine (gstate_any _ b own2 G2 HG5.out HK2.out).mono ?_
    rw [hnow]
    rintro e' w6 ⟨V2, rfl, hV2, hVu, nz, rfl⟩
    have hT2p := (hV2.list p hp11)
    have hT2q := (hV2.list (2 + p) hq11)
    have hv2p : (V2.list p).n = n + 1 := by rw [hT2p.len, HB.out.lib]; exact HN.out
    have hv2q : (V2.list (2 + p)).n = (S.list (2 + p)).length := by rw [hT2q.len, HB.out.hand]
    obtain ⟨ht2b, ht2c⟩ := hT2p.at n (by rw [HB.out.lib, HN.out]; omega)
    have hga : w.heap.size + 1 ≤ (V2.list p).b := by
      have := (hVu _ (Or.inr ⟨p, hp11, owns_of hT2p (by rw [HB.out.lib, HN.out]; omega)⟩)).1
      rw [plus_size, alloc_size'] at this; omega
    have hs6 : (((w.alloc (.cells (stA V S.num) 29)).plus y5).plus nz).heap.size = w.heap.size + 1 + (y5.and nz).objs.size := by rw [plus_plus, plus_size, alloc_size']
    rw [hs6] at ht2b
    have htb : ¬ (V2.list p).b = w.heap.size + 1 + (y5.and nz).objs.size := by omega
    have htc : ¬ (V2.list p).b < w.heap.size + 1 := by omega
    rw [plus_plus, plus_cell, if_neg (by rw [alloc_size']; exact htc)] at ht2c
    have htop := HB.out.top
    rw [HN.out, Nat.add_sub_cancel] at htop
    rw [htop] at ht2c
    have hnum := HB.out.num
    have HV2 := Lib.hid hV2
    have HVU := Lib.hid hVu
    have HNOW := Lib.hid hnow
    have HT2P := Lib.hid hT2p
    have HT2Q := Lib.hid hT2q
    clear hV2 hVu hnow hT2p hT2q htop
    go_wp2_with fail
    refine wp_region_grow (by kernel_rfl) (by kernel_rfl) ?_; (repeat (go_big_quiet_step ( fail ))); refine wpQuiet_nil ?_; rintro _ ⟨nx, rfl⟩
    go_wp2_with fail
    have hSq : Ints w (V.list (2 + p)) (S.list (2 + p)) := HR.out.list (2 + p) hq11
    have hTl : (T.list (2 + p)).length = (S.list (2 + p)).length := HB.out.hand
    have HSQ := Lib.hid hSq
    have HTL := Lib.hid hTl
    clear hSq hTl
    have hcq : ∀ j, j < (S.list (2 + p)).length → w.heap.size + 1 ≤ (V2.list (2 + p)).b ∧ (V2.list (2 + p)).b < w.heap.size + 1 + (y5.and nz).objs.size ∧ cellFar (w.alloc (.cells (stA V S.num) 29)) (y5.and nz) (V2.list (2 + p)).b ((V2.list (2 + p)).o + j) = some (I (gt (T.list (2 + p)) j)) := fun j hj => by
      obtain ⟨h1, h2⟩ := HT2Q.out.at j (by rw [HTL.out]; exact hj)
      have h3 := (HVU.out _ (Or.inr ⟨2 + p, hq11, owns_of HT2Q.out (by rw [HTL.out]; omega)⟩)).1
      rw [plus_size, alloc_size'] at h3
      rw [hs6] at h1
      rw [plus_plus, plus_cell, if_neg (by rw [alloc_size']; omega)] at h2
      exact ⟨by omega, h1, h2⟩
    have HCQ := Lib.hid hcq
    clear hcq ht2c
    go_loop [19, 150] (fun h i => ∃ (k : Nat) (hv : Bool), k ≤ (S.list (2 + p)).length ∧ i = .int .i64 k ∧ h = .bool hv ∧ Hid (hv = (xc == (a : Int) || ((S.list (2 + p)).take k).any fun y => y == xc))) (fun _ i => (S.list (2 + p)).length - (intOf i).toNat)
    case atStart => exact ⟨0, _, Nat.zero_le _, rfl, rfl, by rw [Hid]; simp⟩
    case round =>
      obtain ⟨k, hv, hk, rfl, rfl, hhv⟩ := hrel
      by_cases hlt : k < (S.list (2 + p)).length
      · obtain ⟨qb, qc⟩ := HSQ.out.at k hlt
        have q1 : ¬ (V.list (2 + p)).b = w.heap.size := by omega
        have q2 : (V.list (2 + p)).b < w.heap.size + 1 := by omega
        have q3 : ¬ (V.list (2 + p)).b = w.heap.size + 1 + (y5.and nz).objs.size := by omega
        have q4 : (V.list (2 + p)).b < w.heap.size + 1 + (y5.and nz).objs.size + 1 := by omega
        have hmem := HB.out.rest _ (gt_mem _ k hlt)
        have HMEM := Lib.hid hmem
        clear hmem
        have hk2 : ¬ ((S.list (2 + p)).length : Int) < k := by omega
        have hnx : Hid ((hv || gt (S.list (2 + p)) k == xc) = (xc == (a : Int) || ((S.list (2 + p)).take (k + 1)).any fun y => y == xc)) := by
          rw [Hid, hhv.out, take_snoc _ _ hlt, List.any_append]; simp [Bool.or_assoc]
        generalize gt (S.list (2 + p)) k = idk at *
        cases hv <;> (
        go_wp2_with fail
        go_loop [22, 166] (fun f i => ∃ (j : Nat) (fv : Bool), j ≤ (S.list (2 + p)).length ∧ i = .int .i64 j ∧ f = .bool fv ∧ Hid (fv = (idk == xc || ((T.list (2 + p)).take j).any fun y => y == idk))) (fun _ i => (S.list (2 + p)).length - (intOf i).toNat)
        case atStart => exact ⟨0, _, Nat.zero_le _, rfl, rfl, by rw [Hid]; simp⟩
        case round =>
          obtain ⟨j, fv, hj, rfl, rfl, hfv⟩ := hrel
          by_cases hjt : j < (S.list (2 + p)).length
          · obtain ⟨r1, r2, r3⟩ := HCQ.out j hjt
            have r4 : ¬ (V2.list (2 + p)).b < w.heap.size + 1 := by omega
            have r5 : ¬ (V2.list (2 + p)).b = w.heap.size + 1 + (y5.and nz).objs.size := by omega
            have r6 : (V2.list (2 + p)).b < w.heap.size + 1 + (y5.and nz).objs.size + 1 := by omega
            have hfx : Hid ((fv || gt (T.list (2 + p)) j == idk) = (idk == xc || ((T.list (2 + p)).take (j + 1)).any fun y => y == idk)) := by
              rw [Hid, hfv.out, take_snoc _ _ (by rw [HTL.out]; exact hjt), List.any_append]; simp [Bool.or_assoc]
            generalize gt (T.list (2 + p)) j = yk at *
            cases fv <;> (
            go_wp2_with fail
            go_round
            case rel => exact ⟨j + 1, _, by omega, by go_num, rfl, hfx⟩
            case measure => simp [intOf]; omega)
          · obtain rfl : fv = true := by
              rw [hfv.out, List.take_of_length_le (by rw [HTL.out]; omega)]
              rcases HMEM.out with h | h
              · simp [h]
              · rw [Bool.or_eq_true, List.any_eq_true]; exact Or.inr ⟨idk, h, by simp⟩
            go_wp2_with fail
            go_round
            case rel => exact ⟨k + 1, _, by omega, by go_num, rfl, hnx⟩
            case measure => simp [intOf]; omega)
      · obtain rfl : hv = true := by
          rw [hhv.out, List.take_of_length_le (by omega)]
          rcases HB.out.had with h | h
          · simp [h]
          · rw [Bool.or_eq_true, List.any_eq_true]; exact Or.inr ⟨xc, h, by simp⟩
        have hVN : V.objs.n = S.objs.length := HR.out.objs.len
        have hV2N : V2.objs.n = S.objs.length := by rw [HV2.out.objs.len, HB.out.many]
        have hN50 : S.objs.length ≤ 50 := HSM.out.objs
        have hx1 := HB.out.x1
        obtain ⟨xn, hxn⟩ := Int.eq_ofNat_of_zero_le HB.out.x0
        subst hxn
        have hfar : ∀ i, i < S.objs.length → w.heap.size + 1 ≤ V2.objs.b ∧ V2.objs.b < w.heap.size + 1 + (y5.and nz).objs.size ∧ V2.objs.o + i * 18 + 18 ≤ (blkFar (w.alloc (.cells (stA V S.num) 29)) (y5.and nz) V2.objs.b).size ∧
            sub (blkFar (w.alloc (.cells (stA V S.num) 29)) (y5.and nz) V2.objs.b) (V2.objs.o + i * 18) 18 = cellsOf (rowAt T.objs i) ∧ cellFar (w.alloc (.cells (stA V S.num) 29)) (y5.and nz) V2.objs.b (V2.objs.o + i * 18 + 3) = some (I (gt (rowAt T.objs i) 3)) := fun i hi => by
          obtain ⟨h1, _, h2, h3, h4⟩ := HV2.out.objs.at (by omega) i (by rw [HB.out.many]; exact hi)
          have h5 := (HVU.out _ (Or.inl (owns_ofR HV2.out.objs (by rw [HB.out.many]; omega)))).1
          rw [plus_size, alloc_size'] at h5
          rw [hs6] at h1
          have h6 := h4 3 (by omega)
          rw [plus_plus, plus_cell, if_neg (by rw [alloc_size']; omega)] at h6
          rw [plus_plus, blk_plus, if_neg (by rw [alloc_size']; omega)] at h2 h3
          exact ⟨by omega, h1, h2, h3, h6⟩
        have hzone := HB.out.zone
        rw [Int.toNat_natCast] at hzone
        obtain ⟨f1, f2, _, _, f5⟩ := hfar xn (by omega)
        rw [hzone] at f5
        have f6 : ¬ V2.objs.b < w.heap.size + 1 := by omega
        have f7 : ¬ V2.objs.b = w.heap.size + 1 + (y5.and nz).objs.size := by omega
        have f8 : V2.objs.b < w.heap.size + 1 + (y5.and nz).objs.size + 1 := by omega
        have HCT := Lib.hid (fun W (r : RepSt W V2 T) => refCheck_any T V2 W r (hsT.small (by omega)))
        rw [hnum, HB.out.check] at HCT
        have HFAR := Lib.hid hfar
        have hwT : ∀ i, i < S.objs.length → (rowAt T.objs i).length = 18 := fun i hi => HV2.out.objs.wid i (by rw [HB.out.many]; exact hi)
        have HWT := Lib.hid hwT
        have hxi : (xn : Int) < S.objs.length := hx1
        have hxi2 : xn < S.objs.length := by omega
        clear hfar hzone hwT
        go_wp2_with fail
        go_loopw [189] (fun i wr => ∃ (k : Nat) (z : Ext), k ≤ S.objs.length ∧ i = .int .i64 k ∧ wr = (((w.alloc (.cells (stA V S.num) 29)).plus (y5.and nz)).alloc (.cells (stA V2 S.num) 29)).plus z) (fun i _ => S.objs.length - (intOf i).toNat)
        case atStart => exact ⟨0, _, Nat.zero_le _, rfl, rfl⟩
        case round =>
          obtain ⟨k2, z, hk2, rfl, rfl⟩ := hrel
          by_cases hlt2 : k2 < S.objs.length
          · by_cases hka : k2 = a
            · subst hka
              go_wp2_with fail
              refine wp_region_grow (by kernel_rfl) (by kernel_rfl) ?_; (repeat (go_big_quiet_step ( fail ))); refine wpQuiet_nil ?_; rintro _ ⟨nx, rfl⟩
              go_wp2_with fail
              go_roundw
              case rel => exact ⟨k2 + 1, _, by omega, by go_num, rfl⟩
              case measure => simp [intOf]; omega
            · have hka2 : ¬ (k2 : Int) = a := by omega
              have hka3 : ((k2 : Int) != (a : Int)) = true := by simpa using hka2
              by_cases hkx : k2 = xn
              · subst hkx
                go_wp2_with fail
                refine wp_region_grow (by kernel_rfl) (by kernel_rfl) ?_; (repeat (go_big_quiet_step ( fail ))); refine wpQuiet_nil ?_; rintro _ ⟨nx, rfl⟩
                go_wp2_with fail
                go_roundw
                case rel => exact ⟨k2 + 1, _, by omega, by go_num, rfl⟩
                case measure => simp [intOf]; omega
              · have hkx2 : ¬ (k2 : Int) = xn := by omega
                have hkx3 : ((k2 : Int) != (xn : Int)) = true := by simpa using hkx2
                obtain ⟨e1, e2, e3, e4, _⟩ := HFAR.out k2 hlt2
                obtain ⟨d1, d2, d3, d4, _⟩ := HR.out.objs.at (by omega) k2 hlt2
                rw [HB.out.rows k2 hka2 hkx2] at e4
                have d5 : ¬ V.objs.b = w.heap.size := by omega
                have d6 : V.objs.b < w.heap.size + 1 := by omega
                have d7 : ¬ V.objs.b = w.heap.size + 1 + (y5.and nz).objs.size := by omega
                have d8 : V.objs.b < w.heap.size + 1 + (y5.and nz).objs.size + 1 := by omega
                generalize rowAt S.objs k2 = row at *
                go_wp2_with fail
                refine wp_region_grow (by kernel_rfl) (by kernel_rfl) ?_; (repeat (go_big_quiet_step ( fail ))); refine wpQuiet_nil ?_; rintro _ ⟨nx, rfl⟩
                go_wp2_with fail
                go_roundw
                case rel => exact ⟨k2 + 1, _, by omega, by go_num, rfl⟩
                case measure => simp [intOf]; omega
          · go_wp2_with (go_at_call 7; refine (HCT.out _ (HV2.out.grow ?_)).mono ?_; rw [plus_plus]; exact (by repeat (first | exact Grow.refl _ | refine Grow.andr ?_ | refine Grow.plus ?_ _ | refine Grow.alloc ?_ _ | refine Grow.drew ?_ | refine Grow.drewN ?_ _)); rintro e' w' ⟨rfl, nq, rfl⟩)
            go_ret
            exact ⟨rfl, (by repeat (first | exact Grow.refl _ | refine Grow.andr ?_ | refine Grow.plus ?_ _ | refine Grow.alloc ?_ _ | refine Grow.drew ?_ | refine Grow.drewN ?_ _))⟩
  · have hb : (checkN S != 0) = true := by simpa using hck
    generalize checkN S = n at *
    clear R GL hsm hck
    go_enter Tryd.func3, Tryd.ntmps3
    go_wp2_with (first | (go_at_call 5; refine (HAl.out _).mono ?_; rintro e' w' ⟨rfl, nx, rfl⟩) | (go_at_call 6; refine (HLo.out _ (by repeat (first | exact Grow.refl _ | refine Grow.andr ?_ | refine Grow.plus ?_ _ | refine Grow.alloc ?_ _ | refine Grow.drew ?_ | refine Grow.drewN ?_ _))).mono ?_; rintro e' w' ⟨rfl, nx, rfl⟩) | (go_at_call 7; refine (HRef.out _ (by repeat (first | exact Grow.refl _ | refine Grow.andr ?_ | refine Grow.plus ?_ _ | refine Grow.alloc ?_ _ | refine Grow.drew ?_ | refine Grow.drewN ?_ _))).mono ?_; rintro e' w' ⟨rfl, nx, rfl⟩))
    go_ret
    exact ⟨rfl, (by repeat (first | exact Grow.refl _ | refine Grow.andr ?_ | refine Grow.plus ?_ _ | refine Grow.alloc ?_ _ | refine Grow.drew ?_ | refine Grow.drewN ?_ _))⟩
end Go.Proofs.YtmmkmhpchoelkaaDoor
