/-
  What the document's Of is to answer.
  The document's creatures that fight: who is one, which words it has, who may block; the attackers.
-/
import Derived.Test.YtnjdkkgkaafdbaaGreatDoorMEval
import Derived.Test.YtnjdkkgkaafdbaaGreatDoorMCb1
import Derived.Test.YtnjdkkgkaafdbaaGreatDoorMRef17
import Derived.Test.YtnjdkkgkaafdbaaGreatDoorMRefChk
namespace Go.Proofs.YtnjdkkgkaafdbaaGreatDoor
open Go Go.RowKit

/-- The document's shape, as it is walked elsewhere. -/
def Of17 : Prop := ∀ (S : St) (V : SV) (w : World), RepSt w V S → Right S → Small S → ∀ d : Nat, d < S.objs.length →
    Calls Tryz.prog 37 #[.agg (stA V S.num), .int .i64 (d : Int)] w fun e w' => e = .returned (.agg (cellsOf (shapeN S d))) ∧ Grow w w'
end Go.Proofs.YtnjdkkgkaafdbaaGreatDoor
namespace Go.Proofs.YtnjdkkgkaafdbaaGreatDoor
open Go Go.RowKit

@[go_sem] theorem field17_0 (w : World) (a b c : Int) : (Instr.field 64 (.agg (cellsOf [a, b, c])) 0).run Tryz.prog w = .ok (I a) w := by kernel_rfl
@[go_sem] theorem field17_1 (w : World) (a b c : Int) : (Instr.field 64 (.agg (cellsOf [a, b, c])) 1).run Tryz.prog w = .ok (I b) w := by kernel_rfl
@[go_sem] theorem field17_2 (w : World) (a b c : Int) : (Instr.field 64 (.agg (cellsOf [a, b, c])) 2).run Tryz.prog w = .ok (I c) w := by kernel_rfl
theorem row3 {l : List Int} (h : l.length = 3) : ∃ a b c, l = [a, b, c] := by
  match l, h with
  | [a, b, c], _ => exact ⟨a, b, c, rfl⟩
theorem wdB_is : ∀ k : Nat, k < 256 → ∀ w ∈ [(1 : Int), 2, 4, 8, 16, 32, 64, 128], ((((k : Int)).tdiv w).tmod 2 == 1) = (bits .and .i64 (k : Int) w == w) := by decide +kernel
theorem wdTo_in (S : St) (d k e : Nat) (he : e < 256) : wdTo S d k e < 256 := by
  unfold wdTo
  generalize (staticsN S).take k = l
  induction l generalizing e with
  | nil => exact he
  | cons x l ih =>
    rw [List.foldl_cons]
    refine ih _ ?_
    unfold wdS
    split
    · exact turn_lt _ _ _ he
    · exact he
theorem words_in {S : St} (h : Right S) {d : Nat} (hd : d < S.objs.length) : ∃ k : Nat, k < 256 ∧ gt (shapeN S d) 2 = (k : Int) := by
  obtain ⟨hc0, hc1⟩ := h.card hd
  obtain ⟨s1, s2, _⟩ := card_says (gt (rowAt S.objs d) 0).toNat (by omega)
  have k2 : (kindN S d).says < 256 := s2
  have k1 : 0 ≤ (kindN S d).says := s1
  rw [← shape17_is h hd]
  exact ⟨_, turn_lt _ _ _ (wdTo_in S d _ _ (by omega)), rfl⟩
set_option maxRecDepth 100000 in
theorem is24_any (T8 : Table08) (S : St) (V : SV) (w : World) (R : RepSt w V S) (hS : Small S) (id : Int) :
    Calls Tryz.prog 36 #[.agg (stA V S.num), .int .i64 id] w fun e w' => e = .returned (.bool (checkN S == 0 && creatureB S id)) ∧ Grow w w' := by
  have HC := Lib.hid (fun W (g : Grow w W) => refCheck_any S V W (R.grow g) hS)
  cases hb : (checkN S == 0) with
  | true =>
    have hR : Right S := (checkN_zero S).1 (by simpa using hb)
    have HI := Lib.hid (fun W (g : Grow w W) => is17_any T8 S V W (R.grow g) hR id)
    generalize checkN S = n at *
    generalize creatureB S id = c at *
    clear hR R hS T8
    go_enter Tryz.func36, Tryz.ntmps36
    go_wp2_with (first | (go_at_call 28; refine (HC.out _ grI).mono ?_; rintro e' w' ⟨rfl, nx, rfl⟩) | (go_at_call 77; refine (HI.out _ grI).mono ?_; rintro e' w' ⟨rfl, nx, rfl⟩))
    go_ret
    exact ⟨ret_bool (by simp), grI⟩
  | false =>
    generalize checkN S = n at *
    generalize creatureB S id = c at *
    clear R hS T8
    go_enter Tryz.func36, Tryz.ntmps36
    go_wp2_with (go_at_call 28; refine (HC.out _ grI).mono ?_; rintro e' w' ⟨rfl, nx, rfl⟩)
    go_ret
    exact ⟨ret_bool (by simp), grI⟩
set_option maxRecDepth 100000 in
theorem word24_any (O : Of17) (S : St) (V : SV) (w : World) (h : RS S V w) (d : Nat) (hc : creatureB S d = true) (wd : Int) (hw : wd ∈ [(1 : Int), 2, 4, 8, 16, 32, 64, 128]) :
    Calls Tryz.prog 38 #[.agg (stA V S.num), .int .i64 (d : Int), .int .i64 wd] w fun e w' => e = .returned (.bool (hasB S d wd)) ∧ Grow w w' := by
  have hd : d < S.objs.length := by have := (creatureB_in hc).2.1; omega
  have HO := Lib.hid (fun W (g : Grow w W) => O S V W (h.rep.grow g) h.right h.small d hd)
  obtain ⟨k, hk, hk2⟩ := words_in h.right hd
  have hB : hasB S d wd = (((gt (shapeN S d) 2).tdiv wd).tmod 2 == 1) := by
    rw [hasB, hc, Bool.true_and, Int.toNat_natCast, hk2, wdB_is k hk wd hw]
  have hw0 : ¬ wd = 0 := by rintro rfl; simp at hw
  have hq : wrap64 ((gt (shapeN S d) 2).tdiv wd) = (gt (shapeN S d) 2).tdiv wd := by
    rw [hk2]
    have h1 : 1 ≤ wd ∧ wd ≤ 128 := by simp at hw; omega
    have h2 : 0 ≤ ((k : Int)).tdiv wd ∧ ((k : Int)).tdiv wd ≤ k := by
      rw [Int.tdiv_eq_ediv_of_nonneg (by omega)]
      exact ⟨Int.ediv_nonneg (by omega) (by omega), Int.ediv_le_self _ (by omega)⟩
    unfold wrap64; omega
  have hsl : (shapeN S d).length = 3 := rfl
  rw [hB]
  clear hB hk2 hw O h hc
  generalize shapeN S d = sh at *
  obtain ⟨s0, s1, s2, rfl⟩ := row3 hsl
  simp only [gt, List.getD_cons_zero, List.getD_cons_succ] at hq ⊢
  go_enter Tryz.func38, Tryz.ntmps38
  go_wp2_with (go_at_call 37; refine (HO.out _ grI).mono ?_; rintro e' w' ⟨rfl, nx, rfl⟩)
  go_ret
  exact ⟨rfl, grI⟩
theorem Right.tap {S : St} (h : Right S) {d : Nat} (hd : d < S.objs.length) : (gt (rowAt S.objs d) 4 == 0) = !(gt (rowAt S.objs d) 4 == 1) := by
  have h1 : 0 ≤ gt (rowAt S.objs d) 4 ∧ gt (rowAt S.objs d) 4 ≤ 1 := h.num hd (f := 4) (by decide)
  have : gt (rowAt S.objs d) 4 = 0 ∨ gt (rowAt S.objs d) 4 = 1 := by omega
  rcases this with e | e <;> rw [e] <;> rfl
theorem is24_bad (T8 : Table08) (S : St) (V : SV) (w : World) (R : RepSt w V S) (hS : Small S) (hb : checkN S ≠ 0) (id : Int) :
    Calls Tryz.prog 36 #[.agg (stA V S.num), .int .i64 id] w fun e w' => e = .returned (.bool false) ∧ Grow w w' := by
  have h := is24_any T8 S V w R hS id
  rwa [show (checkN S == 0) = false from by simpa using hb, Bool.false_and] at h
theorem is24_good (T8 : Table08) (S : St) (V : SV) (w : World) (h : RS S V w) (id : Int) :
    Calls Tryz.prog 36 #[.agg (stA V S.num), .int .i64 id] w fun e w' => e = .returned (.bool (creatureB S id)) ∧ Grow w w' := by
  have h1 := is24_any T8 S V w h.rep h.small id
  rwa [show (checkN S == 0) = true from by simpa using (checkN_zero S).2 h.right, Bool.true_and] at h1
set_option maxRecDepth 100000 in
set_option maxHeartbeats 2000000 in
theorem stops24_good (T8 : Table08) (O : Of17) (S : St) (V : SV) (w : World) (h : RS S V w) (id a : Int) :
    Calls Tryz.prog 14 #[.agg (stA V S.num), .int .i64 id, .int .i64 a] w fun e w' => e = .returned (.bool (stopsB S id a)) ∧ Grow w w' := by
  have HI := Lib.hid (show ∀ W, Grow w W → ∀ x u, (x = id ∧ u = creatureB S id) ∨ (x = a ∧ u = creatureB S a) → Calls Tryz.prog 36 #[.agg (stA V S.num), .int .i64 x] W fun e w' => e = .returned (.bool u) ∧ Grow W w' from fun W g x u hx => by
    rcases hx with ⟨rfl, rfl⟩ | ⟨rfl, rfl⟩ <;> exact is24_good T8 S V W (h.grow g) _)
  have HB : Hid (stopsB S id a = (creatureB S id && attacksB S a && (fldN S id 2 == 1 - S.num 19) && !(fldN S id 4 == 1) && (!hasB S a 1 || (hasB S id 1 || hasB S id 2)))) := rfl
  have HAt : Hid (attacksB S a = (creatureB S a && (gt (rowAt S.objs a.toNat) 11 == 1))) := rfl
  have hN := h.rep.objs.len
  cases hc : creatureB S id with
  | false =>
    rw [hc] at HB HI
    clear hc h
    go_enter Tryz.func14, Tryz.ntmps14
    go_wp2_with (go_at_call 36; refine (HI.out _ grI _ _ (by exact .inl ⟨rfl, rfl⟩)).mono ?_; rintro e' w' ⟨rfl, nx, rfl⟩)
    go_ret
    exact ⟨ret_bool (by rw [HB.out]; simp), grI⟩
  | true =>
  cases ha : creatureB S a with
  | false =>
    rw [hc, HAt.out, ha] at HB
    rw [hc, ha] at HI
    clear hc ha h
    go_enter Tryz.func14, Tryz.ntmps14
    go_wp2_with (go_at_call 36; refine (HI.out _ grI _ _ (by first | exact .inl ⟨rfl, rfl⟩ | exact .inr ⟨rfl, rfl⟩)).mono ?_; rintro e' w' ⟨rfl, nx, rfl⟩)
    go_ret
    exact ⟨ret_bool (by rw [HB.out]; simp), grI⟩
  | true =>
    obtain ⟨c1, c2, _, _⟩ := creatureB_in hc
    obtain ⟨d, rfl⟩ := Int.eq_ofNat_of_zero_le c1
    have hd : d < S.objs.length := by omega
    obtain ⟨a1, a2, _, _⟩ := creatureB_in ha
    obtain ⟨n, rfl⟩ := Int.eq_ofNat_of_zero_le a1
    have hn : n < S.objs.length := by omega
    obtain ⟨ob, ow, osz, osub, _⟩ := h.rep.objs.at (by omega) d hd
    obtain ⟨_, _, _, _, ac⟩ := h.rep.objs.at (by omega) n hn
    have ac11 := ac 11 (by decide)
    have htap := h.right.tap hd
    rw [hc, HAt.out, ha] at HB
    rw [hc, ha] at HI
    unfold fldN at HB
    rw [Int.toNat_natCast, Int.toNat_natCast, ← htap] at HB
    have HW := Lib.hid (show ∀ W, Grow w W → ∀ x v u, (x = (n : Int) ∧ v = 1 ∧ u = hasB S n 1) ∨ (x = (d : Int) ∧ v = 1 ∧ u = hasB S d 1) ∨ (x = (d : Int) ∧ v = 2 ∧ u = hasB S d 2) → Calls Tryz.prog 38 #[.agg (stA V S.num), .int .i64 x, .int .i64 v] W fun e w' => e = .returned (.bool u) ∧ Grow W w' from fun W g x v u hx => by
      rcases hx with ⟨rfl, rfl, rfl⟩ | ⟨rfl, rfl, rfl⟩ | ⟨rfl, rfl, rfl⟩
      · exact word24_any O S V W (h.grow g) n ha 1 (by decide)
      · exact word24_any O S V W (h.grow g) d hc 1 (by decide)
      · exact word24_any O S V W (h.grow g) d hc 2 (by decide))
    have hin : (n : Int) < (S.objs.length : Int) := a2
    have hid : (d : Int) < (S.objs.length : Int) := c2
    have hact := h.right.active
    have hwr : wrap64 (1 - S.num 19) = 1 - S.num 19 := by unfold wrap64; omega
    generalize gt (rowAt S.objs n) 11 = u11 at *
    generalize rowAt S.objs d = row at *
    generalize hasB S n 1 = b0 at *
    generalize hasB S d 1 = b1 at *
    generalize hasB S d 2 = b2 at *
    clear hc ha h c1 c2 a1 a2 ac htap hact
    have g11 : (u11 != 1) = !(u11 == 1) := rfl
    cases h11 : (u11 == 1) <;> rw [h11] at HB g11 <;> simp only [Bool.not_true, Bool.not_false] at g11
    case false =>
      go_enter Tryz.func14, Tryz.ntmps14
      go_wp2_with (go_at_call 36; refine (HI.out _ grI _ _ (by first | exact .inl ⟨rfl, rfl⟩ | exact .inr ⟨rfl, rfl⟩)).mono ?_; rintro e' w' ⟨rfl, nx, rfl⟩)
      go_ret
      exact ⟨ret_bool (by rw [HB.out]; simp), grI⟩
    case true =>
      cases h2 : (gt row 2 == 1 - S.num 19) <;> cases h4 : (gt row 4 == 0) <;> rw [h2, h4] at HB <;> cases b0 <;> cases b1
      all_goals
        go_enter Tryz.func14, Tryz.ntmps14
        go_wp2_with (first | (go_at_call 36; refine (HI.out _ grI _ _ (by first | exact .inl ⟨rfl, rfl⟩ | exact .inr ⟨rfl, rfl⟩)).mono ?_; rintro e' w' ⟨rfl, nx, rfl⟩) | (go_at_call 38; refine (HW.out _ grI _ _ _ (by first | exact .inl ⟨rfl, rfl, rfl⟩ | exact .inr (.inl ⟨rfl, rfl, rfl⟩) | exact .inr (.inr ⟨rfl, rfl, rfl⟩))).mono ?_; rintro e' w' ⟨rfl, nx, rfl⟩))
        go_ret
        exact ⟨ret_bool (by rw [HB.out]; simp), grI⟩
end Go.Proofs.YtnjdkkgkaafdbaaGreatDoor
