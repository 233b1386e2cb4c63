/-
  The walk of the law CheckTells.
-/
import Derived.Test.YtibmnofpoenonaaGreatDoorMLaw20
import Derived.Test.YtibmnofpoenonaaGreatDoorMRef20
import Derived.Deep.RegionHeld3
namespace Go.Proofs.YtibmnofpoenonaaGreatDoor
open Go Go.RowKit Go.Shelf

/-! ### A state that isn't right -/
theorem of_no (S : St) (V : SV) (w : World) (R : RepSt w V S) (hS : Small S) (G : Glob w) (hc : checkN S ≠ 0) (id : Int) :
    Calls Tryz.prog 64 #[.agg (stA V S.num), .int .i64 id] w fun e w' => e = .returned (.tuple #[.agg (cellsOf [0, 0, 0]), .iface 62 (.int .i64 (checkN S))]) ∧ Grow w w' := by
  have HC := Lib.hid (fun W (g : Grow w W) => by have := check_any S V W (R.grow g) hS (G.grow g); rw [errV_is hc] at this; exact this)
  generalize checkN S = n at *
  clear R G hS
  go_enter Tryz.func64, Tryz.ntmps64
  go_wp2_with (go_at_call 30; refine (HC.out _ (by repeat (first | exact Grow.refl _ | refine Grow.andr ?_ | refine Grow.plus ?_ _ | refine Grow.alloc ?_ _ | refine Grow.drew ?_ | refine Grow.drewN ?_ _))).mono ?_; rintro e' w' ⟨rfl, nx, rfl⟩)
  refine bodyPost_ret (results2_Shape rfl _ _ _ rfl ?_) rfl ?_
  · go_simp
  · exact ⟨by go_simp, (by repeat (first | exact Grow.refl _ | refine Grow.andr ?_ | refine Grow.plus ?_ _ | refine Grow.alloc ?_ _ | refine Grow.drew ?_ | refine Grow.drewN ?_ _))⟩
theorem left_no (S : St) (V : SV) (w : World) (R : RepSt w V S) (hS : Small S) (G : Glob w) (hc : checkN S ≠ 0) (id : Int) :
    Calls Tryz.prog 38 #[.agg (stA V S.num), .int .i64 id] w fun e w' => e = .returned (.tuple #[.int .i64 0, .iface 62 (.int .i64 (checkN S))]) ∧ Grow w w' := by
  have HO := Lib.hid (fun W (g : Grow w W) => of_no S V W (R.grow g) hS (G.grow g) hc id)
  generalize checkN S = n at *
  clear R G hS
  go_enter Tryz.func38, Tryz.ntmps38
  go_wp2_with (go_at_call 64; refine (HO.out _ (by repeat (first | exact Grow.refl _ | refine Grow.andr ?_ | refine Grow.plus ?_ _ | refine Grow.alloc ?_ _ | refine Grow.drew ?_ | refine Grow.drewN ?_ _))).mono ?_; rintro e w' ⟨rfl, nx, rfl⟩)
  go_ret2
  exact ⟨rfl, (by repeat (first | exact Grow.refl _ | refine Grow.andr ?_ | refine Grow.plus ?_ _ | refine Grow.alloc ?_ _ | refine Grow.drew ?_ | refine Grow.drewN ?_ _))⟩
set_option maxRecDepth 100000 in
theorem dying_no (S : St) (V : SV) (w : World) (R : RepSt w V S) (hS : Small S) (G : Glob w) (hc : checkN S ≠ 0) :
    Calls Tryz.prog 20 #[.agg (stA V S.num)] w fun e w' => e = .returned (Sl.val .nil) ∧ Grow w w' := by
  have HLe := Lib.hid (fun W (g : Grow w W) id => left_no S V W (R.grow g) hS (G.grow g) hc id)
  have hL := R.list 8 (by omega)
  have hln := hL.len
  have hsm : (S.list 8).length ≤ 1048576 := hS.list 8 (by omega)
  have HL := Lib.hid hL
  generalize checkN S = n at *
  clear R G hS hL hc
  go_enter Tryz.func20, Tryz.ntmps20
  go_wp2_with fail
  go_loopw [3, 12] (fun v i wr => ∃ (k : Nat), k ≤ (S.list 8).length ∧ i = .int .i64 k ∧ v = .slice none 0 0 ∧ Grow (w.alloc (.cells (stA V S.num) 29)) wr) (fun _ i _ => (S.list 8).length - (intOf i).toNat)
  case atStart => exact ⟨0, by omega, rfl, rfl, (by repeat (first | exact Grow.refl _ | refine Grow.andr ?_ | refine Grow.plus ?_ _ | refine Grow.alloc ?_ _ | refine Grow.drew ?_ | refine Grow.drewN ?_ _))⟩
  case round =>
    obtain ⟨k, hk, rfl, rfl, hG⟩ := hrel
    obtain ⟨x, rfl⟩ := hG
    by_cases hlt : k < (S.list 8).length
    · obtain ⟨q1, q2⟩ := (HL.out.grow (w' := (w.alloc (.cells (stA V S.num) 29)).plus x) (by repeat (first | exact Grow.refl _ | refine Grow.andr ?_ | refine Grow.plus ?_ _ | refine Grow.alloc ?_ _ | refine Grow.drew ?_ | refine Grow.drewN ?_ _))).at k hlt
      generalize gt (S.list 8) k = id at *
      have HL2 := Lib.hid (fun W g => HLe.out W g id)
      go_wp2_with (go_at_call 38; refine (HL2.out _ (by repeat (first | exact Grow.refl _ | refine Grow.andr ?_ | refine Grow.plus ?_ _ | refine Grow.alloc ?_ _ | refine Grow.drew ?_ | refine Grow.drewN ?_ _))).mono ?_; rintro e' w' ⟨rfl, nx, rfl⟩)
      go_roundw
      case rel => exact ⟨k + 1, by omega, by go_num, rfl, (by repeat (first | exact Grow.refl _ | refine Grow.andr ?_ | refine Grow.plus ?_ _ | refine Grow.alloc ?_ _ | refine Grow.drew ?_ | refine Grow.drewN ?_ _))⟩
      case measure => simp [intOf]; omega
    · go_wp2_with fail
      go_ret
      exact ⟨rfl, (by repeat (first | exact Grow.refl _ | refine Grow.andr ?_ | refine Grow.plus ?_ _ | refine Grow.alloc ?_ _ | refine Grow.drew ?_ | refine Grow.drewN ?_ _))⟩
theorem settled_no (S : St) (V : SV) (w : World) (R : RepSt w V S) (hS : Small S) (G : Glob w) (hc : checkN S ≠ 0) :
    Calls Tryz.prog 15 #[.agg (stA V S.num)] w fun e w' => e = .returned (.bool false) ∧ Grow w w' := by
  have HC := Lib.hid (fun W (g : Grow w W) => by have := check_any S V W (R.grow g) hS (G.grow g); rw [errV_is hc] at this; exact this)
  generalize checkN S = n at *
  clear R G hS
  go_enter Tryz.func15, Tryz.ntmps15
  go_wp2_with (go_at_call 30; refine (HC.out _ (by repeat (first | exact Grow.refl _ | refine Grow.andr ?_ | refine Grow.plus ?_ _ | refine Grow.alloc ?_ _ | refine Grow.drew ?_ | refine Grow.drewN ?_ _))).mono ?_; rintro e' w' ⟨rfl, nx, rfl⟩)
  go_ret
  exact ⟨rfl, (by repeat (first | exact Grow.refl _ | refine Grow.andr ?_ | refine Grow.plus ?_ _ | refine Grow.alloc ?_ _ | refine Grow.drew ?_ | refine Grow.drewN ?_ _))⟩
set_option maxRecDepth 100000 in
set_option maxHeartbeats 8000000 in
theorem tells_any (T8 : Table08) (O : Of17) (S : St) (V : SV) (w : World) (R : RepSt w V S) (GL : GlobE w (fun k => w.heap.size ≤ k)) (HA : ∀ W, Grow w W → Calls Tryz.prog 7 #[] W fun e w' => e = .returned (.bool true) ∧ Grow W w') (player : Int) :
    Calls Tryz.prog 4 #[.agg (stA V S.num), .int .i64 player] w fun e w' => e = .returned (.bool true) ∧ Grow w w' := by
  have HAl := Lib.hid HA
  have HLo := Lib.hid (fun W (g : Grow w W) => long_any S V 40 (by omega) W (R.grow g))
  cases hl : longB S 40 with
  | true =>
    rw [hl] at HLo
    clear R GL hl HA O T8
    go_enter Tryz.func4, Tryz.ntmps4
    go_wp2_with (first | (go_at_call 7; refine (HAl.out _ (by repeat (first | exact Grow.refl _ | refine Grow.andr ?_ | refine Grow.plus ?_ _ | refine Grow.alloc ?_ _ | refine Grow.drew ?_ | refine Grow.drewN ?_ _))).mono ?_; rintro e' w' ⟨rfl, nx, rfl⟩) | (go_at_call 8; refine (HLo.out _ (by repeat (first | exact Grow.refl _ | refine Grow.andr ?_ | refine Grow.plus ?_ _ | refine Grow.alloc ?_ _ | refine Grow.drew ?_ | refine Grow.drewN ?_ _))).mono ?_; rintro e' w' ⟨rfl, nx, rfl⟩))
    go_ret
    exact ⟨rfl, (by repeat (first | exact Grow.refl _ | refine Grow.andr ?_ | refine Grow.plus ?_ _ | refine Grow.alloc ?_ _ | refine Grow.drew ?_ | refine Grow.drewN ?_ _))⟩
  | false =>
  have hsm := long_smallN hl
  have hSm := hsm.small (show 50 ≤ 1048576 by omega)
  have HRef := Lib.hid (fun W (g : Grow w W) => refCheck_any S V W (R.grow g) hSm)
  rw [hl] at HLo
  have hN := R.objs.len
  have hNl : S.objs.length ≤ 50 := hsm.objs
  have hwr : IntKind.i64.wrap ((S.objs.length : Int) + 1) = S.objs.length + 1 := wrap_in _ (by omega) (by omega)
  have HL1 := Lib.hid (fun W p => lost_any S V W p)
  have HL2 := Lib.hid (fun W p => lost20_any S V W p)
  have HFu := Lib.hid (fun W (g : Grow w W) => fuel_any S V W (R.grow g) hSm)
  clear hl HA
  by_cases hck : checkN S = 0
  · rw [hck] at HRef
    have h : RS S V w := ⟨R, (checkN_zero S).1 hck, hSm, GL.base⟩
    have HDy := Lib.hid (fun W (g : Grow w W) => dying_any S V W (h.grow g))
    have HD20 := Lib.hid (fun W (g : Grow w W) => dying20_any T8 O S V W (h.grow g))
    have HSe := Lib.hid (fun W (g : Grow w W) => settled_any S V W (h.grow g))
    have h8 : (dyingN S).length ≤ 50 := Nat.le_trans (dying_len S) (hsm.list 8 (by omega))
    have HIn0 := Lib.hid (fun W (s1 s2 : Sl) (r1 : Ints W s1 (dyingN S)) (r2 : Ints W s2 (dyingN S)) => ints_same W s1 s2 (dyingN S) r1 r2 (by omega))
    have hq : quietB S = (S.num 24 != 0 || (resultN S == 0 && (dyingN S).length == 0)) := rfl
    have hres : resultN S = if lostB S 0 = true ∧ lostB S 1 = true then 3 else if lostB S 0 = true then 2 else if lostB S 1 = true then 1 else 0 := rfl
    clear R GL hsm hSm hck O T8 h
    by_cases h24 : S.num 24 = 0
    · by_cases hd : (dyingN S).length = 0
      · have hd' : (((dyingN S).length : Int) == 0) = true := by simp [hd]
        cases hb0 : lostB S 0 with
        | true =>
          have hqv : quietB S = false := by rw [hq, hres, h24, hb0]; cases lostB S 1 <;> simp
          rw [hqv] at HSe
          clear hq hres hqv
          go_enter Tryz.func4, Tryz.ntmps4
          go_wp2_with (first | (go_at_call 7; refine (HAl.out _ (by repeat (first | exact Grow.refl _ | refine Grow.andr ?_ | refine Grow.plus ?_ _ | refine Grow.alloc ?_ _ | refine Grow.drew ?_ | refine Grow.drewN ?_ _))).mono ?_; rintro e' w' ⟨rfl, nx, rfl⟩) | (go_at_call 8; refine (HLo.out _ (by repeat (first | exact Grow.refl _ | refine Grow.andr ?_ | refine Grow.plus ?_ _ | refine Grow.alloc ?_ _ | refine Grow.drew ?_ | refine Grow.drewN ?_ _))).mono ?_; rintro e' w' ⟨rfl, nx, rfl⟩) | (go_at_call 9; refine (HRef.out _ (by repeat (first | exact Grow.refl _ | refine Grow.andr ?_ | refine Grow.plus ?_ _ | refine Grow.alloc ?_ _ | refine Grow.drew ?_ | refine Grow.drewN ?_ _))).mono ?_; rintro e' w' ⟨rfl, nx, rfl⟩) | (go_at_call 16; refine (HD20.out _ (by repeat (first | exact Grow.refl _ | refine Grow.andr ?_ | refine Grow.plus ?_ _ | refine Grow.alloc ?_ _ | refine Grow.drew ?_ | refine Grow.drewN ?_ _))).mono ?_; rintro e' w' ⟨s1, rfl, hI1, nd1, rfl⟩; have hn1 := hI1.len; (try simp only [drew_plus] at hI1); (try simp only [plus_plus] at hI1); have HI1 := Lib.hid hI1; clear hI1) | (go_at_call 17; refine (HL2.out _ _).mono ?_; rintro e' w' ⟨rfl, nl, rfl⟩))
          go_region_held3 (fun W => W.blk w.heap.size = stA V S.num ∧ W.cell? ⟨w.heap.size, 0, none⟩ = some V.objs.val) (simp [go_sem, *]) (first | (go_at_call 18; refine (HL1.out _ _).mono ?_; rintro e' w' ⟨rfl, nl, rfl⟩) | (go_at_call 17; refine (HL2.out _ _).mono ?_; rintro e' w' ⟨rfl, nl, rfl⟩) | (go_at_call 20; refine (HDy.out _ (by repeat (first | exact Grow.refl _ | refine Grow.andr ?_ | refine Grow.plus ?_ _ | refine Grow.alloc ?_ _ | refine Grow.drew ?_ | refine Grow.drewN ?_ _))).mono ?_; rintro e' w' ⟨s2, rfl, hI2, _, nd, rfl⟩; (try simp only [drew_plus] at hI2); (try simp only [plus_plus] at hI2); have HII := Lib.hid (fun W g => HIn0.out W s2 s1 (Ints.grow hI2 g)); clear hI2) | (go_at_call 19; refine (HII.out _ (by repeat (first | exact Grow.refl _ | refine Grow.andr ?_ | refine Grow.plus ?_ _ | refine Grow.alloc ?_ _ | refine Grow.drew ?_ | refine Grow.drewN ?_ _)) (HI1.out.grow (by repeat (first | exact Grow.refl _ | refine Grow.andr ?_ | refine Grow.plus ?_ _ | refine Grow.alloc ?_ _ | refine Grow.drew ?_ | refine Grow.drewN ?_ _)))).mono ?_; rintro e' w' ⟨rfl, ni, rfl⟩) | (go_at_call 15; refine (HSe.out _ (by repeat (first | exact Grow.refl _ | refine Grow.andr ?_ | refine Grow.plus ?_ _ | refine Grow.alloc ?_ _ | refine Grow.drew ?_ | refine Grow.drewN ?_ _))).mono ?_; rintro e' w' ⟨rfl, ns, rfl⟩) | (go_at_call 21; refine (HFu.out _ (by repeat (first | exact Grow.refl _ | refine Grow.andr ?_ | refine Grow.plus ?_ _ | refine Grow.alloc ?_ _ | refine Grow.drew ?_ | refine Grow.drewN ?_ _))).mono ?_; rintro e' w' ⟨rfl, nf, rfl⟩))
          all_goals
            go_wp2_with fail
            go_ret
            exact ⟨rfl, (by repeat (first | exact Grow.refl _ | refine Grow.andr ?_ | refine Grow.plus ?_ _ | refine Grow.alloc ?_ _ | refine Grow.drew ?_ | refine Grow.drewN ?_ _))⟩

        | false =>
          cases hb1 : lostB S 1 with
          | true =>
            have hqv : quietB S = false := by rw [hq, hres, h24, hb0, hb1]; simp
            rw [hqv] at HSe
            clear hq hres hqv
            go_enter Tryz.func4, Tryz.ntmps4
            go_wp2_with (first | (go_at_call 7; refine (HAl.out _ (by repeat (first | exact Grow.refl _ | refine Grow.andr ?_ | refine Grow.plus ?_ _ | refine Grow.alloc ?_ _ | refine Grow.drew ?_ | refine Grow.drewN ?_ _))).mono ?_; rintro e' w' ⟨rfl, nx, rfl⟩) | (go_at_call 8; refine (HLo.out _ (by repeat (first | exact Grow.refl _ | refine Grow.andr ?_ | refine Grow.plus ?_ _ | refine Grow.alloc ?_ _ | refine Grow.drew ?_ | refine Grow.drewN ?_ _))).mono ?_; rintro e' w' ⟨rfl, nx, rfl⟩) | (go_at_call 9; refine (HRef.out _ (by repeat (first | exact Grow.refl _ | refine Grow.andr ?_ | refine Grow.plus ?_ _ | refine Grow.alloc ?_ _ | refine Grow.drew ?_ | refine Grow.drewN ?_ _))).mono ?_; rintro e' w' ⟨rfl, nx, rfl⟩) | (go_at_call 16; refine (HD20.out _ (by repeat (first | exact Grow.refl _ | refine Grow.andr ?_ | refine Grow.plus ?_ _ | refine Grow.alloc ?_ _ | refine Grow.drew ?_ | refine Grow.drewN ?_ _))).mono ?_; rintro e' w' ⟨s1, rfl, hI1, nd1, rfl⟩; have hn1 := hI1.len; (try simp only [drew_plus] at hI1); (try simp only [plus_plus] at hI1); have HI1 := Lib.hid hI1; clear hI1) | (go_at_call 17; refine (HL2.out _ _).mono ?_; rintro e' w' ⟨rfl, nl, rfl⟩))
            go_region_held3 (fun W => W.blk w.heap.size = stA V S.num ∧ W.cell? ⟨w.heap.size, 0, none⟩ = some V.objs.val) (simp [go_sem, *]) (first | (go_at_call 18; refine (HL1.out _ _).mono ?_; rintro e' w' ⟨rfl, nl, rfl⟩) | (go_at_call 17; refine (HL2.out _ _).mono ?_; rintro e' w' ⟨rfl, nl, rfl⟩) | (go_at_call 20; refine (HDy.out _ (by repeat (first | exact Grow.refl _ | refine Grow.andr ?_ | refine Grow.plus ?_ _ | refine Grow.alloc ?_ _ | refine Grow.drew ?_ | refine Grow.drewN ?_ _))).mono ?_; rintro e' w' ⟨s2, rfl, hI2, _, nd, rfl⟩; (try simp only [drew_plus] at hI2); (try simp only [plus_plus] at hI2); have HII := Lib.hid (fun W g => HIn0.out W s2 s1 (Ints.grow hI2 g)); clear hI2) | (go_at_call 19; refine (HII.out _ (by repeat (first | exact Grow.refl _ | refine Grow.andr ?_ | refine Grow.plus ?_ _ | refine Grow.alloc ?_ _ | refine Grow.drew ?_ | refine Grow.drewN ?_ _)) (HI1.out.grow (by repeat (first | exact Grow.refl _ | refine Grow.andr ?_ | refine Grow.plus ?_ _ | refine Grow.alloc ?_ _ | refine Grow.drew ?_ | refine Grow.drewN ?_ _)))).mono ?_; rintro e' w' ⟨rfl, ni, rfl⟩) | (go_at_call 15; refine (HSe.out _ (by repeat (first | exact Grow.refl _ | refine Grow.andr ?_ | refine Grow.plus ?_ _ | refine Grow.alloc ?_ _ | refine Grow.drew ?_ | refine Grow.drewN ?_ _))).mono ?_; rintro e' w' ⟨rfl, ns, rfl⟩) | (go_at_call 21; refine (HFu.out _ (by repeat (first | exact Grow.refl _ | refine Grow.andr ?_ | refine Grow.plus ?_ _ | refine Grow.alloc ?_ _ | refine Grow.drew ?_ | refine Grow.drewN ?_ _))).mono ?_; rintro e' w' ⟨rfl, nf, rfl⟩))
            all_goals
              go_wp2_with fail
              go_ret
              exact ⟨rfl, (by repeat (first | exact Grow.refl _ | refine Grow.andr ?_ | refine Grow.plus ?_ _ | refine Grow.alloc ?_ _ | refine Grow.drew ?_ | refine Grow.drewN ?_ _))⟩

          | false =>
            have hqv : quietB S = true := by rw [hq, hres, h24, hb0, hb1, hd]; simp
            rw [hqv] at HSe
            clear hq hres hqv
            go_enter Tryz.func4, Tryz.ntmps4
            go_wp2_with (first | (go_at_call 7; refine (HAl.out _ (by repeat (first | exact Grow.refl _ | refine Grow.andr ?_ | refine Grow.plus ?_ _ | refine Grow.alloc ?_ _ | refine Grow.drew ?_ | refine Grow.drewN ?_ _))).mono ?_; rintro e' w' ⟨rfl, nx, rfl⟩) | (go_at_call 8; refine (HLo.out _ (by repeat (first | exact Grow.refl _ | refine Grow.andr ?_ | refine Grow.plus ?_ _ | refine Grow.alloc ?_ _ | refine Grow.drew ?_ | refine Grow.drewN ?_ _))).mono ?_; rintro e' w' ⟨rfl, nx, rfl⟩) | (go_at_call 9; refine (HRef.out _ (by repeat (first | exact Grow.refl _ | refine Grow.andr ?_ | refine Grow.plus ?_ _ | refine Grow.alloc ?_ _ | refine Grow.drew ?_ | refine Grow.drewN ?_ _))).mono ?_; rintro e' w' ⟨rfl, nx, rfl⟩) | (go_at_call 16; refine (HD20.out _ (by repeat (first | exact Grow.refl _ | refine Grow.andr ?_ | refine Grow.plus ?_ _ | refine Grow.alloc ?_ _ | refine Grow.drew ?_ | refine Grow.drewN ?_ _))).mono ?_; rintro e' w' ⟨s1, rfl, hI1, nd1, rfl⟩; have hn1 := hI1.len; (try simp only [drew_plus] at hI1); (try simp only [plus_plus] at hI1); have HI1 := Lib.hid hI1; clear hI1) | (go_at_call 17; refine (HL2.out _ _).mono ?_; rintro e' w' ⟨rfl, nl, rfl⟩))
            go_region_held3 (fun W => W.blk w.heap.size = stA V S.num ∧ W.cell? ⟨w.heap.size, 0, none⟩ = some V.objs.val) (simp [go_sem, *]) (first | (go_at_call 18; refine (HL1.out _ _).mono ?_; rintro e' w' ⟨rfl, nl, rfl⟩) | (go_at_call 17; refine (HL2.out _ _).mono ?_; rintro e' w' ⟨rfl, nl, rfl⟩) | (go_at_call 20; refine (HDy.out _ (by repeat (first | exact Grow.refl _ | refine Grow.andr ?_ | refine Grow.plus ?_ _ | refine Grow.alloc ?_ _ | refine Grow.drew ?_ | refine Grow.drewN ?_ _))).mono ?_; rintro e' w' ⟨s2, rfl, hI2, _, nd, rfl⟩; (try simp only [drew_plus] at hI2); (try simp only [plus_plus] at hI2); have HII := Lib.hid (fun W g => HIn0.out W s2 s1 (Ints.grow hI2 g)); clear hI2) | (go_at_call 19; refine (HII.out _ (by repeat (first | exact Grow.refl _ | refine Grow.andr ?_ | refine Grow.plus ?_ _ | refine Grow.alloc ?_ _ | refine Grow.drew ?_ | refine Grow.drewN ?_ _)) (HI1.out.grow (by repeat (first | exact Grow.refl _ | refine Grow.andr ?_ | refine Grow.plus ?_ _ | refine Grow.alloc ?_ _ | refine Grow.drew ?_ | refine Grow.drewN ?_ _)))).mono ?_; rintro e' w' ⟨rfl, ni, rfl⟩) | (go_at_call 15; refine (HSe.out _ (by repeat (first | exact Grow.refl _ | refine Grow.andr ?_ | refine Grow.plus ?_ _ | refine Grow.alloc ?_ _ | refine Grow.drew ?_ | refine Grow.drewN ?_ _))).mono ?_; rintro e' w' ⟨rfl, ns, rfl⟩) | (go_at_call 21; refine (HFu.out _ (by repeat (first | exact Grow.refl _ | refine Grow.andr ?_ | refine Grow.plus ?_ _ | refine Grow.alloc ?_ _ | refine Grow.drew ?_ | refine Grow.drewN ?_ _))).mono ?_; rintro e' w' ⟨rfl, nf, rfl⟩))
            all_goals
              go_wp2_with fail
              go_ret
              exact ⟨rfl, (by repeat (first | exact Grow.refl _ | refine Grow.andr ?_ | refine Grow.plus ?_ _ | refine Grow.alloc ?_ _ | refine Grow.drew ?_ | refine Grow.drewN ?_ _))⟩

      · have hqv : quietB S = false := by rw [hq, h24]; simp [hd]
        rw [hqv] at HSe
        clear hq hres hqv
        go_enter Tryz.func4, Tryz.ntmps4
        go_wp2_with (first | (go_at_call 7; refine (HAl.out _ (by repeat (first | exact Grow.refl _ | refine Grow.andr ?_ | refine Grow.plus ?_ _ | refine Grow.alloc ?_ _ | refine Grow.drew ?_ | refine Grow.drewN ?_ _))).mono ?_; rintro e' w' ⟨rfl, nx, rfl⟩) | (go_at_call 8; refine (HLo.out _ (by repeat (first | exact Grow.refl _ | refine Grow.andr ?_ | refine Grow.plus ?_ _ | refine Grow.alloc ?_ _ | refine Grow.drew ?_ | refine Grow.drewN ?_ _))).mono ?_; rintro e' w' ⟨rfl, nx, rfl⟩) | (go_at_call 9; refine (HRef.out _ (by repeat (first | exact Grow.refl _ | refine Grow.andr ?_ | refine Grow.plus ?_ _ | refine Grow.alloc ?_ _ | refine Grow.drew ?_ | refine Grow.drewN ?_ _))).mono ?_; rintro e' w' ⟨rfl, nx, rfl⟩) | (go_at_call 16; refine (HD20.out _ (by repeat (first | exact Grow.refl _ | refine Grow.andr ?_ | refine Grow.plus ?_ _ | refine Grow.alloc ?_ _ | refine Grow.drew ?_ | refine Grow.drewN ?_ _))).mono ?_; rintro e' w' ⟨s1, rfl, hI1, nd1, rfl⟩; have hn1 := hI1.len; (try simp only [drew_plus] at hI1); (try simp only [plus_plus] at hI1); have HI1 := Lib.hid hI1; clear hI1) | (go_at_call 17; refine (HL2.out _ _).mono ?_; rintro e' w' ⟨rfl, nl, rfl⟩))
        go_region_held3 (fun W => W.blk w.heap.size = stA V S.num ∧ W.cell? ⟨w.heap.size, 0, none⟩ = some V.objs.val) (simp [go_sem, *]) (first | (go_at_call 18; refine (HL1.out _ _).mono ?_; rintro e' w' ⟨rfl, nl, rfl⟩) | (go_at_call 17; refine (HL2.out _ _).mono ?_; rintro e' w' ⟨rfl, nl, rfl⟩) | (go_at_call 20; refine (HDy.out _ (by repeat (first | exact Grow.refl _ | refine Grow.andr ?_ | refine Grow.plus ?_ _ | refine Grow.alloc ?_ _ | refine Grow.drew ?_ | refine Grow.drewN ?_ _))).mono ?_; rintro e' w' ⟨s2, rfl, hI2, _, nd, rfl⟩; (try simp only [drew_plus] at hI2); (try simp only [plus_plus] at hI2); have HII := Lib.hid (fun W g => HIn0.out W s2 s1 (Ints.grow hI2 g)); clear hI2) | (go_at_call 19; refine (HII.out _ (by repeat (first | exact Grow.refl _ | refine Grow.andr ?_ | refine Grow.plus ?_ _ | refine Grow.alloc ?_ _ | refine Grow.drew ?_ | refine Grow.drewN ?_ _)) (HI1.out.grow (by repeat (first | exact Grow.refl _ | refine Grow.andr ?_ | refine Grow.plus ?_ _ | refine Grow.alloc ?_ _ | refine Grow.drew ?_ | refine Grow.drewN ?_ _)))).mono ?_; rintro e' w' ⟨rfl, ni, rfl⟩) | (go_at_call 15; refine (HSe.out _ (by repeat (first | exact Grow.refl _ | refine Grow.andr ?_ | refine Grow.plus ?_ _ | refine Grow.alloc ?_ _ | refine Grow.drew ?_ | refine Grow.drewN ?_ _))).mono ?_; rintro e' w' ⟨rfl, ns, rfl⟩) | (go_at_call 21; refine (HFu.out _ (by repeat (first | exact Grow.refl _ | refine Grow.andr ?_ | refine Grow.plus ?_ _ | refine Grow.alloc ?_ _ | refine Grow.drew ?_ | refine Grow.drewN ?_ _))).mono ?_; rintro e' w' ⟨rfl, nf, rfl⟩))
        all_goals
          go_wp2_with fail
          go_ret
          exact ⟨rfl, (by repeat (first | exact Grow.refl _ | refine Grow.andr ?_ | refine Grow.plus ?_ _ | refine Grow.alloc ?_ _ | refine Grow.drew ?_ | refine Grow.drewN ?_ _))⟩

    · have hqv : quietB S = true := by rw [hq]; simp [h24]
      rw [hqv] at HSe
      clear hq hres hqv
      go_enter Tryz.func4, Tryz.ntmps4
      go_wp2_with (first | (go_at_call 7; refine (HAl.out _ (by repeat (first | exact Grow.refl _ | refine Grow.andr ?_ | refine Grow.plus ?_ _ | refine Grow.alloc ?_ _ | refine Grow.drew ?_ | refine Grow.drewN ?_ _))).mono ?_; rintro e' w' ⟨rfl, nx, rfl⟩) | (go_at_call 8; refine (HLo.out _ (by repeat (first | exact Grow.refl _ | refine Grow.andr ?_ | refine Grow.plus ?_ _ | refine Grow.alloc ?_ _ | refine Grow.drew ?_ | refine Grow.drewN ?_ _))).mono ?_; rintro e' w' ⟨rfl, nx, rfl⟩) | (go_at_call 9; refine (HRef.out _ (by repeat (first | exact Grow.refl _ | refine Grow.andr ?_ | refine Grow.plus ?_ _ | refine Grow.alloc ?_ _ | refine Grow.drew ?_ | refine Grow.drewN ?_ _))).mono ?_; rintro e' w' ⟨rfl, nx, rfl⟩) | (go_at_call 16; refine (HD20.out _ (by repeat (first | exact Grow.refl _ | refine Grow.andr ?_ | refine Grow.plus ?_ _ | refine Grow.alloc ?_ _ | refine Grow.drew ?_ | refine Grow.drewN ?_ _))).mono ?_; rintro e' w' ⟨s1, rfl, hI1, nd1, rfl⟩; have hn1 := hI1.len; (try simp only [drew_plus] at hI1); (try simp only [plus_plus] at hI1); have HI1 := Lib.hid hI1; clear hI1) | (go_at_call 17; refine (HL2.out _ _).mono ?_; rintro e' w' ⟨rfl, nl, rfl⟩))
      go_region_held3 (fun W => W.blk w.heap.size = stA V S.num ∧ W.cell? ⟨w.heap.size, 0, none⟩ = some V.objs.val) (simp [go_sem, *]) (first | (go_at_call 18; refine (HL1.out _ _).mono ?_; rintro e' w' ⟨rfl, nl, rfl⟩) | (go_at_call 17; refine (HL2.out _ _).mono ?_; rintro e' w' ⟨rfl, nl, rfl⟩) | (go_at_call 20; refine (HDy.out _ (by repeat (first | exact Grow.refl _ | refine Grow.andr ?_ | refine Grow.plus ?_ _ | refine Grow.alloc ?_ _ | refine Grow.drew ?_ | refine Grow.drewN ?_ _))).mono ?_; rintro e' w' ⟨s2, rfl, hI2, _, nd, rfl⟩; (try simp only [drew_plus] at hI2); (try simp only [plus_plus] at hI2); have HII := Lib.hid (fun W g => HIn0.out W s2 s1 (Ints.grow hI2 g)); clear hI2) | (go_at_call 19; refine (HII.out _ (by repeat (first | exact Grow.refl _ | refine Grow.andr ?_ | refine Grow.plus ?_ _ | refine Grow.alloc ?_ _ | refine Grow.drew ?_ | refine Grow.drewN ?_ _)) (HI1.out.grow (by repeat (first | exact Grow.refl _ | refine Grow.andr ?_ | refine Grow.plus ?_ _ | refine Grow.alloc ?_ _ | refine Grow.drew ?_ | refine Grow.drewN ?_ _)))).mono ?_; rintro e' w' ⟨rfl, ni, rfl⟩) | (go_at_call 15; refine (HSe.out _ (by repeat (first | exact Grow.refl _ | refine Grow.andr ?_ | refine Grow.plus ?_ _ | refine Grow.alloc ?_ _ | refine Grow.drew ?_ | refine Grow.drewN ?_ _))).mono ?_; rintro e' w' ⟨rfl, ns, rfl⟩) | (go_at_call 21; refine (HFu.out _ (by repeat (first | exact Grow.refl _ | refine Grow.andr ?_ | refine Grow.plus ?_ _ | refine Grow.alloc ?_ _ | refine Grow.drew ?_ | refine Grow.drewN ?_ _))).mono ?_; rintro e' w' ⟨rfl, nf, rfl⟩))
      all_goals
        go_wp2_with fail
        go_ret
        exact ⟨rfl, (by repeat (first | exact Grow.refl _ | refine Grow.andr ?_ | refine Grow.plus ?_ _ | refine Grow.alloc ?_ _ | refine Grow.drew ?_ | refine Grow.drewN ?_ _))⟩

  · have hb : (checkN S == 0) = false := by simpa using hck
    have HDy := Lib.hid (fun W (g : Grow w W) => by
      have := (dying_no S V W (R.grow g) hSm (GL.base.grow g) hck).mono (R' := fun e w' => ∃ s : Sl, e = .returned s.val ∧ Ints w' s [] ∧ Grow W w') (fun e w' h => ⟨.nil, h.1, Ints.nil _, h.2⟩)
      exact this)
    have HSe := Lib.hid (fun W (g : Grow w W) => settled_no S V W (R.grow g) hSm (GL.base.grow g) hck)
    have HIn0 := Lib.hid (fun W (s1 : Sl) (b : Nat) (r1 : Ints W s1 []) => ints_same W s1 (.mk b 0 0 0) [] r1 ⟨rfl, Nat.le_refl _, fun i hi => absurd hi (Nat.not_lt_zero _)⟩ (by simp))
    generalize checkN S = n at *
    clear R GL hsm hSm hck O T8
    go_enter Tryz.func4, Tryz.ntmps4
    go_wp2_with (first | (go_at_call 7; refine (HAl.out _ (by repeat (first | exact Grow.refl _ | refine Grow.andr ?_ | refine Grow.plus ?_ _ | refine Grow.alloc ?_ _ | refine Grow.drew ?_ | refine Grow.drewN ?_ _))).mono ?_; rintro e' w' ⟨rfl, nx, rfl⟩) | (go_at_call 8; refine (HLo.out _ (by repeat (first | exact Grow.refl _ | refine Grow.andr ?_ | refine Grow.plus ?_ _ | refine Grow.alloc ?_ _ | refine Grow.drew ?_ | refine Grow.drewN ?_ _))).mono ?_; rintro e' w' ⟨rfl, nx, rfl⟩) | (go_at_call 9; refine (HRef.out _ (by repeat (first | exact Grow.refl _ | refine Grow.andr ?_ | refine Grow.plus ?_ _ | refine Grow.alloc ?_ _ | refine Grow.drew ?_ | refine Grow.drewN ?_ _))).mono ?_; rintro e' w' ⟨rfl, nx, rfl⟩))
    go_region_held3 (fun W => W.blk w.heap.size = stA V S.num ∧ W.cell? ⟨w.heap.size, 0, none⟩ = some V.objs.val) (simp [go_sem, *]) (first | (go_at_call 18; refine (HL1.out _ _).mono ?_; rintro e' w' ⟨rfl, nl, rfl⟩) | (go_at_call 17; refine (HL2.out _ _).mono ?_; rintro e' w' ⟨rfl, nl, rfl⟩) | (go_at_call 20; refine (HDy.out _ (by repeat (first | exact Grow.refl _ | refine Grow.andr ?_ | refine Grow.plus ?_ _ | refine Grow.alloc ?_ _ | refine Grow.drew ?_ | refine Grow.drewN ?_ _))).mono ?_; rintro e' w' ⟨s2, rfl, hI2, nd, rfl⟩; (try simp only [drew_plus] at hI2); (try simp only [plus_plus] at hI2); have HII := Lib.hid (fun W g b => HIn0.out W s2 b (Ints.grow hI2 g)); clear hI2) | (go_at_call 19; refine (HII.out _ (by repeat (first | exact Grow.refl _ | refine Grow.andr ?_ | refine Grow.plus ?_ _ | refine Grow.alloc ?_ _ | refine Grow.drew ?_ | refine Grow.drewN ?_ _)) _).mono ?_; rintro e' w' ⟨rfl, ni, rfl⟩) | (go_at_call 15; refine (HSe.out _ (by repeat (first | exact Grow.refl _ | refine Grow.andr ?_ | refine Grow.plus ?_ _ | refine Grow.alloc ?_ _ | refine Grow.drew ?_ | refine Grow.drewN ?_ _))).mono ?_; rintro e' w' ⟨rfl, ns, rfl⟩) | (go_at_call 21; refine (HFu.out _ (by repeat (first | exact Grow.refl _ | refine Grow.andr ?_ | refine Grow.plus ?_ _ | refine Grow.alloc ?_ _ | refine Grow.drew ?_ | refine Grow.drewN ?_ _))).mono ?_; rintro e' w' ⟨rfl, nf, rfl⟩))
    all_goals
      go_wp2_with fail
      go_ret
      exact ⟨rfl, (by repeat (first | exact Grow.refl _ | refine Grow.andr ?_ | refine Grow.plus ?_ _ | refine Grow.alloc ?_ _ | refine Grow.drew ?_ | refine Grow.drewN ?_ _))⟩
end Go.Proofs.YtibmnofpoenonaaGreatDoor
