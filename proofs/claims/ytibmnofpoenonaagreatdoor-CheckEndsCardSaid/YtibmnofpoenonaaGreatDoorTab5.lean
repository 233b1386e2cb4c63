/-
  Beasts, and the table of all cards.
-/
import Derived.Test.YtibmnofpoenonaaGreatDoorTab4
namespace Go.Proofs.YtibmnofpoenonaaGreatDoor
open Go Go.RowKit

@[go_sem] theorem run_build_beast (w : World) (a p t s : Int) (c0 c1 c2 c3 c4 c5 : Int) : (bdRow 92 #[(0, .int .i64 1), (1, .int .i64 a), (3, .agg (cellsOf [c0, c1, c2, c3, c4, c5])), (4, .int .i64 p), (5, .int .i64 t), (6, .int .i64 s)]).run Tryz.prog w = .ok (.value (.agg (CdV.arr ⟨1, a, false, c0, c1, c2, c3, c4, c5, p, t, s, .nil⟩))) w := by kernel_rfl
@[go_sem] theorem run_storeX_Abs (w : World) (b o sb so n c : Nat) (h : (w.cell? ⟨b, o, none⟩).isSome = true) (hf : w.frozen? ⟨b, o, none⟩ = false) : (stRow 90 (.pointer (some ⟨b, o, none⟩)) (.slice (some ⟨sb, so, none⟩) n c)).run Tryz.prog w = .ok .skip (w.setCell ⟨b, o, none⟩ (.slice (some ⟨sb, so, none⟩) n c)) :=
  run_stSl w b o 90 (.mk sb so n c) (by kernel_rfl) h hf
/-- Cards 10 to 49. -/
def beastN (i : Nat) : CardN :=
  if ((i : Int) % 5 == 0) = true then ⟨1, (i : Int) / 5 / 2 + 1, ((i : Int) / 5 + 1) / 2 + 1, wrap64 (2 ^ (i / 5)), [⟨2, 0, 0, 0, 0⟩]⟩
  else if ((i : Int) % 5 == 1) = true then ⟨1, (i : Int) / 5 / 2 + 1, ((i : Int) / 5 + 1) / 2 + 1, wrap64 (2 ^ (i / 5)), if ((i : Int) / 5 % 2 == 1) = true then [⟨2, 0, 0, 0, 0⟩] else []⟩
  else if ((i : Int) % 5 == 2) = true then ⟨1, (i : Int) / 5 / 2 + 1, ((i : Int) / 5 + 1) / 2 + 1, wrap64 (2 ^ (i / 5)), [⟨3, 0, 0, 0, 0⟩]⟩
  else if ((i : Int) % 5 == 3) = true then ⟨1, (i : Int) / 5 / 2 + 1 + 1, ((i : Int) / 5 + 1) / 2 + 1, wrap64 (2 ^ (i / 5)), [⟨1, 0, 0, 0, 0⟩]⟩
  else ⟨1, (i : Int) / 5 / 2 + 1, ((i : Int) / 5 + 1) / 2 + 1 + 1, wrap64 (2 ^ (i / 5)), [⟨1, 0, 0, 0, 0⟩]⟩
set_option maxRecDepth 100000 in
set_option maxHeartbeats 2000000 in
theorem beast_any (w : World) (i : Nat) (hi : i < 40) : Calls Tryz.prog 135 #[.int .i64 (i : Int)] w fun r w' => ∃ c : CdV, r = .returned (.agg c.arr) ∧ CardOk w' w.heap.size c (beastN i) ∧ Grow w w' := by
  go_enter Tryz.func135, Tryz.ntmps135
  go_wp2_with (first | (go_at_call 146; refine (tdo_any _ _ _ _ _).mono ?_; rintro e' w' ⟨rfl, nx, rfl⟩) | (go_at_call 145; refine (when_any _ _ _).mono ?_; rintro e' w' ⟨rfl, nx, rfl⟩) | (go_at_call 136; refine (cost_any _ _ _ _ (by omega) (by omega)).mono ?_; rintro e' w' ⟨d0, d1, d2, d3, d4, d5, rfl, nx, rfl⟩) | (go_at_call 147; refine (active_any _ _ _ _ _ _ _ _ _ _).mono ?_; rintro e' w' ⟨rfl, nx, rfl⟩))
  all_goals refine bodyPost_ret (results_Card rfl _ _ _ rfl ?_) rfl ?_
  all_goals first | (go_simp; done) | skip
  all_goals simp only [beastN, *, if_true, if_false, Bool.false_eq_true]
  all_goals refine ⟨_, (by go_simp; rfl), ⟨rfl, rfl, rfl, rfl, ?_⟩, (by repeat (first | exact Grow.refl _ | refine Grow.andr ?_ | refine Grow.plus ?_ _ | refine Grow.alloc ?_ _ | refine Grow.drew ?_ | refine Grow.drewN ?_ _))⟩
  all_goals first | exact ⟨[], RowsV.nil _ _, .inl rfl, .nil⟩ | exact ⟨[_], RowsV.one (x := AbV.arr _) (by go_simp) (by go_simp; rfl) (by go_simp), .inr (by first | (go_simp; done) | (go_simp; omega) | (simp only [Sl.b]; go_simp; omega)), .cons (.of rfl (by decide)) .nil⟩
end Go.Proofs.YtibmnofpoenonaaGreatDoor
