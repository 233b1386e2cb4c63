/-
  The walk of the document's Check of a state.
-/
import Derived.Test.YtmmkmhpchoelkaaDoorRef10c
import Derived.Test.YtmmkmhpchoelkaaDoorZon
namespace Go.Proofs.YtmmkmhpchoelkaaDoor
open Go Go.RowKit

/-- Is one of the rows from a place on not formed? -/
theorem noForm_drop (l : List (List Int)) (k : Nat) (hk : k < l.length) : (l.drop k).any (fun o => !formedB o) = (!formedB (rowAt l k) || (l.drop (k + 1)).any fun o => !formedB o) := by
  rw [List.drop_eq_getElem_cons hk, List.any_cons]
  have : rowAt l k = l[k] := by simp [rowAt, hk]
  rw [this]
set_option maxRecDepth 100000 in
set_option maxHeartbeats 2000000 in
theorem refCheck_any (S : St) (V : SV) (w : World) (R : RepSt w V S) (hS : Small S) :
    Calls Tryd.prog 7 #[.agg (stA V S.num)] w fun e w' => e = .returned (.int .i64 (checkN S)) ∧ Grow w w' := by
  have hN := R.objs.len
  have hSO := hS.objs
  have HRa := Lib.hid (fun W (g : Grow w W) => refRanges_any S V W (R.grow g) hS)
  have HZo := Lib.hid (fun W (g : Grow w W) => refZones_any S V W (R.grow g) hS)
  have HR := Lib.hid R
  clear R hS
  by_cases h400 : 400 < S.objs.length
  · have hv : Hid (checkN S = 5) := by rw [Hid, checkN, if_pos h400]
    go_enter Tryd.func7, Tryd.ntmps7
    go_wp2_with fail
    go_ret
    exact ⟨by rw [hv.out]; rfl, (by repeat (first | exact Grow.refl _ | refine Grow.andr ?_ | refine Grow.plus ?_ _ | refine Grow.alloc ?_ _ | refine Grow.drew ?_ | refine Grow.drewN ?_ _))⟩
  cases hr : rangesB S with
  | false =>
    have hv : Hid (checkN S = 1) := by rw [Hid, checkN, if_neg h400, if_pos hr]
    rw [hr] at HRa
    go_enter Tryd.func7, Tryd.ntmps7
    go_wp2_with (go_at_call 18; refine (HRa.out _ (by repeat (first | exact Grow.refl _ | refine Grow.andr ?_ | refine Grow.plus ?_ _ | refine Grow.alloc ?_ _ | refine Grow.drew ?_ | refine Grow.drewN ?_ _))).mono ?_; rintro e' w' ⟨rfl, nx, rfl⟩)
    go_ret
    exact ⟨by rw [hv.out]; rfl, (by repeat (first | exact Grow.refl _ | refine Grow.andr ?_ | refine Grow.plus ?_ _ | refine Grow.alloc ?_ _ | refine Grow.drew ?_ | refine Grow.drewN ?_ _))⟩
  | true =>
  rw [hr] at HRa
  rw [zones_same] at HZo
  cases hz : zonesB S with
  | false =>
    have hv : Hid (checkN S = 12) := by rw [Hid, checkN, if_neg h400, if_neg (by rw [hr]; exact Bool.noConfusion), if_pos hz]
    rw [hz] at HZo
    clear hr hz
    go_enter Tryd.func7, Tryd.ntmps7
    go_wp2_with (first | (go_at_call 18; refine (HRa.out _ (by repeat (first | exact Grow.refl _ | refine Grow.andr ?_ | refine Grow.plus ?_ _ | refine Grow.alloc ?_ _ | refine Grow.drew ?_ | refine Grow.drewN ?_ _))).mono ?_; rintro e' w' ⟨rfl, nx, rfl⟩) | (go_at_call 19; refine (HZo.out _ (by repeat (first | exact Grow.refl _ | refine Grow.andr ?_ | refine Grow.plus ?_ _ | refine Grow.alloc ?_ _ | refine Grow.drew ?_ | refine Grow.drewN ?_ _))).mono ?_; rintro e' w' ⟨rfl, nx, rfl⟩))
    go_ret
    exact ⟨by rw [hv.out]; rfl, (by repeat (first | exact Grow.refl _ | refine Grow.andr ?_ | refine Grow.plus ?_ _ | refine Grow.alloc ?_ _ | refine Grow.drew ?_ | refine Grow.drewN ?_ _))⟩
  | true =>
  rw [hz] at HZo
  have hv : Hid (checkN S = if noForm S = true then 2 else 0) := by rw [Hid, checkN, if_neg h400, if_neg (by rw [hr]; exact Bool.noConfusion), if_neg (by rw [hz]; exact Bool.noConfusion)]
  clear hr hz
  generalize hnf : noForm S = nf at *
  have HNF : Hid ((S.objs.drop 0).any (fun o => !formedB o) = nf) := hnf
  clear hnf
  go_enter Tryd.func7, Tryd.ntmps7
  go_wp2_with (first | (go_at_call 18; refine (HRa.out _ (by repeat (first | exact Grow.refl _ | refine Grow.andr ?_ | refine Grow.plus ?_ _ | refine Grow.alloc ?_ _ | refine Grow.drew ?_ | refine Grow.drewN ?_ _))).mono ?_; rintro e' w' ⟨rfl, nx, rfl⟩) | (go_at_call 19; refine (HZo.out _ (by repeat (first | exact Grow.refl _ | refine Grow.andr ?_ | refine Grow.plus ?_ _ | refine Grow.alloc ?_ _ | refine Grow.drew ?_ | refine Grow.drewN ?_ _))).mono ?_; rintro e' w' ⟨rfl, nx, rfl⟩))
  rename_i n1 n2
  go_loopw [18] (fun i wr => ∃ (k : Nat) (x : Ext), k ≤ S.objs.length ∧ i = .int .i64 k ∧ wr = (w.alloc (.cells (stA V S.num) 29)).plus x ∧ Hid ((S.objs.drop k).any (fun o => !formedB o) = nf)) (fun i _ => S.objs.length - (intOf i).toNat)
  case atStart => exact ⟨0, _, Nat.zero_le _, rfl, rfl, HNF⟩
  case round =>
    obtain ⟨k, x, hk, rfl, rfl, hf⟩ := hrel
    by_cases hlt : k < S.objs.length
    · obtain ⟨qb, qw, qsz, qsub, _⟩ := HR.out.objs.at (by omega) k hlt
      have hff := hf.out
      rw [noForm_drop _ _ hlt] at hff
      have HC := Lib.hid (refFormed_any (rowAt S.objs k) qw)
      generalize rowAt S.objs k = row at *
      have nq : ¬ V.objs.b = w.heap.size := by omega
      have nq2 : V.objs.b < w.heap.size + 1 := by omega
      cases hc : formedB row with
      | true =>
        rw [hc] at hff HC
        have HFF : Hid ((S.objs.drop (k + 1)).any (fun o => !formedB o) = nf) := by rw [Hid]; simpa using hff
        clear hff hc hf
        go_wp2_with (go_at_call 20; refine (HC.out _).mono ?_; rintro e' w' ⟨rfl, nx, rfl⟩)
        go_roundw
        case rel => exact ⟨k + 1, _, by omega, by go_num, by first | rfl | exact plus_alloc _ _ _ | (rw [plus_alloc]; exact plus_plus _ _ _), HFF⟩
        case measure => simp [intOf]; omega
      | false =>
        rw [hc] at hff HC
        obtain rfl : nf = true := by simpa using hff.symm
        clear hff hc hf
        go_wp2_with (go_at_call 20; refine (HC.out _).mono ?_; rintro e' w' ⟨rfl, nx, rfl⟩)
        go_ret
        exact ⟨by rw [hv.out]; rfl, (by repeat (first | exact Grow.refl _ | refine Grow.andr ?_ | refine Grow.plus ?_ _ | refine Grow.alloc ?_ _ | refine Grow.drew ?_ | refine Grow.drewN ?_ _))⟩
    · obtain rfl : nf = false := by have := hf.out; rw [List.drop_eq_nil_of_le (by omega)] at this; exact this.symm
      go_wp2_with fail
      go_ret
      exact ⟨by rw [hv.out]; rfl, (by repeat (first | exact Grow.refl _ | refine Grow.andr ?_ | refine Grow.plus ?_ _ | refine Grow.alloc ?_ _ | refine Grow.drew ?_ | refine Grow.drewN ?_ _))⟩
end Go.Proofs.YtmmkmhpchoelkaaDoor
