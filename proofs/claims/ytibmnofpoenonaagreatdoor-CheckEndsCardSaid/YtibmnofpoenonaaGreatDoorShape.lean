/-
  The card of an object; whether an object is a creature.
-/
import Derived.Test.YtibmnofpoenonaaGreatDoorUses
import Derived.Test.YtibmnofpoenonaaGreatDoorEv
namespace Go.Proofs.YtibmnofpoenonaaGreatDoor
open Go Go.RowKit

theorem Right.num {S : St} (h : Right S) {i f : Nat} (hi : i < S.objs.length) (hf : f < 18) : gt (objBounds S.objs.length) (f * 2) ≤ gt (rowAt S.objs i) f ∧ gt (rowAt S.objs i) f ≤ gt (objBounds S.objs.length) (f * 2 + 1) := by
  have h1 := ((rangesB_iff S).1 h.ranges).1 i hi
  unfold okTo at h1
  have h2 := List.all_eq_true.1 h1 f (List.mem_range.2 hf)
  unfold inB at h2
  simpa using h2
theorem Right.card {S : St} (h : Right S) {i : Nat} (hi : i < S.objs.length) : 0 ≤ gt (rowAt S.objs i) 0 ∧ gt (rowAt S.objs i) 0 < 120 := by
  obtain ⟨h1, h2⟩ := h.num hi (f := 0) (by decide)
  have e1 : gt (objBounds S.objs.length) (0 * 2) = 0 := rfl
  have e2 : gt (objBounds S.objs.length) (0 * 2 + 1) = 119 := rfl
  omega
/-- An object's card. -/
def kindN (S : St) (id : Nat) : CardN := cardN (gt (rowAt S.objs id) 0).toNat
set_option maxRecDepth 100000 in
set_option maxHeartbeats 1000000 in
theorem kind_any (S : St) (V : SV) (w : World) (R : RepSt w V S) (hR : Right S) (id : Nat) (hid : id < S.objs.length) :
    Calls Tryz.prog 121 #[.agg (stA V S.num), .int .i64 (id : Int)] w fun e w' => ∃ c : CdV, e = .returned (.agg c.arr) ∧ CardOk w' w.heap.size c (kindN S id) ∧ Grow w w' := by
  have hN := R.objs.len
  obtain ⟨hob, how, hosz, hosub, hocell⟩ := R.objs.at (by omega) id hid
  obtain ⟨k0, k1⟩ := hR.card hid
  obtain ⟨n, hn⟩ := Int.eq_ofNat_of_zero_le k0
  have hn120 : n < 120 := by omega
  have HK : Hid (kindN S id = cardN n) := by rw [Hid, kindN, hn, Int.toNat_natCast]
  have hc0 := hocell 0 (by omega)
  rw [Nat.add_zero, hn] at hc0
  clear hocell hosub hosz how R hR k0 k1 hn
  go_enter Tryz.func121, Tryz.ntmps121
  go_wp2_with (go_at_call 112; refine (card_any _ n hn120).mono ?_; rintro e' w' ⟨c, rfl, hc, nx, rfl⟩; have HC := Lib.hid hc; clear hc)
  refine bodyPost_ret (results_Card rfl _ _ _ rfl ?_) rfl ?_
  · go_simp
  · refine ⟨c, by go_simp, ?_, (by repeat (first | exact Grow.refl _ | refine Grow.andr ?_ | refine Grow.plus ?_ _ | refine Grow.alloc ?_ _ | refine Grow.drew ?_ | refine Grow.drewN ?_ _))⟩
    rw [HK.out]
    exact HC.out.to (b := w.heap.size + 1) (by repeat (first | exact Grow.refl _ | refine Grow.andr ?_ | refine Grow.plus ?_ _ | refine Grow.alloc ?_ _ | refine Grow.drew ?_ | refine Grow.drewN ?_ _)) (Off.plus (Off.base _ _ _ _ (alloc_size' _ _).symm) _) (by first | (go_simp; done) | (go_simp; omega) | (simp only [Sl.b]; go_simp; omega)) (by first | (go_simp; done) | (go_simp; omega) | (simp only [Sl.b]; go_simp; omega)) (by repeat (first | exact Grow.refl _ | refine Grow.andr ?_ | refine Grow.plus ?_ _ | refine Grow.alloc ?_ _ | refine Grow.drew ?_ | refine Grow.drewN ?_ _))
@[go_sem] theorem field_card0 (w : World) (c : CdV) : (Instr.field 92 (.agg c.arr) 0).run Tryz.prog w = .ok (I c.kind) w := by
  obtain ⟨a, b, f, c0, c1, c2, c3, c4, c5, p, t, s, l⟩ := c; cases l <;> kernel_rfl
/-- Is an object of a right state a creature? -/
def creatureB (S : St) (id : Int) : Bool := decide (0 ≤ id) && decide (id < S.objs.length) && (gt (rowAt S.objs id.toNat) 3 == 8) && ((kindN S id.toNat).kind == 1)
theorem creatureB_in {S : St} {id : Int} (h : creatureB S id = true) : 0 ≤ id ∧ id < S.objs.length ∧ gt (rowAt S.objs id.toNat) 3 = 8 ∧ (kindN S id.toNat).kind = 1 := by
  unfold creatureB at h
  simp only [Bool.and_eq_true, decide_eq_true_eq, beq_iff_eq] at h
  exact ⟨h.1.1.1, h.1.1.2, h.1.2, h.2⟩
set_option maxRecDepth 100000 in
set_option maxHeartbeats 1000000 in
theorem creature_any (S : St) (V : SV) (w : World) (R : RepSt w V S) (hR : Right S) (id : Int) :
    Calls Tryz.prog 93 #[.agg (stA V S.num), .int .i64 id] w fun e w' => e = .returned (.bool (creatureB S id)) ∧ Grow w w' := by
  have hN := R.objs.len
  have HR := Lib.hid R
  have HH := Lib.hid hR
  by_cases h0 : id < 0
  · have HB : Hid (creatureB S id = false) := by rw [Hid, creatureB]; simp; omega
    clear R hR
    go_enter Tryz.func93, Tryz.ntmps93
    go_wp2_with fail
    go_ret
    exact ⟨ret_bool HB.out.symm, (by repeat (first | exact Grow.refl _ | refine Grow.andr ?_ | refine Grow.plus ?_ _ | refine Grow.alloc ?_ _ | refine Grow.drew ?_ | refine Grow.drewN ?_ _))⟩
  · by_cases h1 : (S.objs.length : Int) ≤ id
    · have HB : Hid (creatureB S id = false) := by rw [Hid, creatureB]; simp; omega
      clear R hR
      go_enter Tryz.func93, Tryz.ntmps93
      go_wp2_with fail
      go_ret
      exact ⟨ret_bool HB.out.symm, (by repeat (first | exact Grow.refl _ | refine Grow.andr ?_ | refine Grow.plus ?_ _ | refine Grow.alloc ?_ _ | refine Grow.drew ?_ | refine Grow.drewN ?_ _))⟩
    · obtain ⟨d, rfl⟩ := Int.eq_ofNat_of_zero_le (show 0 ≤ id by omega)
      have hd : d < S.objs.length := by omega
      have hd' : (d : Int) < S.objs.length := by omega
      obtain ⟨hob, how, hosz, hosub, hocell⟩ := R.objs.at (by omega) d hd
      have hc3 := hocell 3 (by omega)
      have HB : Hid (creatureB S d = ((gt (rowAt S.objs d) 3 == 8) && ((kindN S d).kind == 1))) := by rw [Hid, creatureB]; simp [hd]
      clear hocell hosub R hR h1 h0
      generalize rowAt S.objs d = row at *
      by_cases h3 : gt row 3 = 8
      · have HB2 : Hid (creatureB S d = ((kindN S d).kind == 1)) := by rw [Hid, HB.out]; simp [h3]
        go_enter Tryz.func93, Tryz.ntmps93
        go_wp2_with (go_at_call 121; refine (kind_any S V _ (HR.out.grow (by repeat (first | exact Grow.refl _ | refine Grow.andr ?_ | refine Grow.plus ?_ _ | refine Grow.alloc ?_ _ | refine Grow.drew ?_ | refine Grow.drewN ?_ _))) HH.out d hd).mono ?_; rintro e' w' ⟨c, rfl, hc, nx, rfl⟩; have hck := hc.kind; clear hc)
        go_ret
        exact ⟨ret_bool HB2.out.symm, (by repeat (first | exact Grow.refl _ | refine Grow.andr ?_ | refine Grow.plus ?_ _ | refine Grow.alloc ?_ _ | refine Grow.drew ?_ | refine Grow.drewN ?_ _))⟩
      · have HB2 : Hid (creatureB S d = false) := by rw [Hid, HB.out]; simp [h3]
        go_enter Tryz.func93, Tryz.ntmps93
        go_wp2_with fail
        go_ret
        exact ⟨ret_bool HB2.out.symm, (by repeat (first | exact Grow.refl _ | refine Grow.andr ?_ | refine Grow.plus ?_ _ | refine Grow.alloc ?_ _ | refine Grow.drew ?_ | refine Grow.drewN ?_ _))⟩
end Go.Proofs.YtibmnofpoenonaaGreatDoor
