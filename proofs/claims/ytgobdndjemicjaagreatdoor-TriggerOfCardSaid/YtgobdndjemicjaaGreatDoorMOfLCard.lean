/-
  The document's table, whole.
  The walks of the document's Has and Of.
  The walks of mulligannum's Effects and Cards over what is the same.
  The walk of the law TriggerOf.
  The law TriggerOf holds for any input.
  The law TriggerOf holds for any input: the tied card.
-/
import Derived.Test.YtgobdndjemicjaaGreatDoorMRef17
import Derived.Test.YtgobdndjemicjaaGreatDoorMRef08f0
import Derived.Test.YtgobdndjemicjaaGreatDoorMRef08f3
import Derived.Test.YtgobdndjemicjaaGreatDoorMRef08h
import Derived.Test.YtgobdndjemicjaaGreatDoorMTrF
import Derived.Test.YtgobdndjemicjaaGreatDoorMRanges
import Derived.Test.YtgobdndjemicjaaGreatDoorMLawS
import Derived.Test.YtgobdndjemicjaaGreatDoorMAlive21
import Derived.Test.YtgobdndjemicjaaGreatDoorCards
import Derived.Test.YtgobdndjemicjaaGreatDoorTie
namespace Go.Proofs.YtgobdndjemicjaaGreatDoor
open Go Go.RowKit

theorem table08 : Table08 := by
  intro w n hn
  by_cases h1 : n < 5
  · exact c08_source w n h1
  by_cases h2 : n < 10
  · obtain ⟨k, rfl⟩ : ∃ k, n = k + 5 := ⟨n - 5, by omega⟩
    rw [show ((k + 5 : Nat) : Int) = (k : Int) + 5 by omega]
    exact c08_source5 w k (by omega)
  by_cases h : n < 50
  · obtain ⟨k, hk, hc⟩ : ∃ k, k < 8 ∧ (n = 5 * k + 10 ∨ n = 5 * k + 11 ∨ n = 5 * k + 12 ∨ n = 5 * k + 13 ∨ n = 5 * k + 14) := ⟨(n - 10) / 5, by omega, by omega⟩
    rcases hc with rfl | rfl | rfl | rfl | rfl
    · rw [show ((5 * k + 10 : Nat) : Int) = 5 * (k : Int) + 10 by omega]
      exact c08_beast0 w k hk
    · rw [show ((5 * k + 11 : Nat) : Int) = 5 * (k : Int) + 11 by omega]
      exact c08_beast1 w k hk
    · rw [show ((5 * k + 12 : Nat) : Int) = 5 * (k : Int) + 12 by omega]
      exact c08_beast2 w k hk
    · rw [show ((5 * k + 13 : Nat) : Int) = 5 * (k : Int) + 13 by omega]
      exact c08_beast3 w k hk
    · rw [show ((5 * k + 14 : Nat) : Int) = 5 * (k : Int) + 14 by omega]
      exact c08_beast4 w k hk
  by_cases h : n < 80
  · obtain ⟨k, hk, hc⟩ : ∃ k, k < 6 ∧ (n = 5 * k + 50 ∨ n = 5 * k + 51 ∨ n = 5 * k + 52 ∨ n = 5 * k + 53 ∨ n = 5 * k + 54) := ⟨(n - 50) / 5, by omega, by omega⟩
    rcases hc with rfl | rfl | rfl | rfl | rfl
    · rw [show ((5 * k + 50 : Nat) : Int) = 5 * (k : Int) + 50 by omega]
      exact c08_spell0 w k hk
    · rw [show ((5 * k + 51 : Nat) : Int) = 5 * (k : Int) + 51 by omega]
      exact c08_spell1 w k hk
    · rw [show ((5 * k + 52 : Nat) : Int) = 5 * (k : Int) + 52 by omega]
      exact c08_spell2 w k hk
    · rw [show ((5 * k + 53 : Nat) : Int) = 5 * (k : Int) + 53 by omega]
      exact c08_spell3 w k hk
    · rw [show ((5 * k + 54 : Nat) : Int) = 5 * (k : Int) + 54 by omega]
      exact c08_spell4 w k hk
  by_cases h : n < 100
  · obtain ⟨k, hk, hc⟩ : ∃ k, k < 4 ∧ (n = 5 * k + 80 ∨ n = 5 * k + 81 ∨ n = 5 * k + 82 ∨ n = 5 * k + 83 ∨ n = 5 * k + 84) := ⟨(n - 80) / 5, by omega, by omega⟩
    rcases hc with rfl | rfl | rfl | rfl | rfl
    · rw [show ((5 * k + 80 : Nat) : Int) = 5 * (k : Int) + 80 by omega]
      exact c08_relic0 w k hk
    · rw [show ((5 * k + 81 : Nat) : Int) = 5 * (k : Int) + 81 by omega]
      exact c08_relic1 w k hk
    · rw [show ((5 * k + 82 : Nat) : Int) = 5 * (k : Int) + 82 by omega]
      exact c08_relic2 w k hk
    · rw [show ((5 * k + 83 : Nat) : Int) = 5 * (k : Int) + 83 by omega]
      exact c08_relic3 w k hk
    · rw [show ((5 * k + 84 : Nat) : Int) = 5 * (k : Int) + 84 by omega]
      exact c08_relic4 w k hk
  by_cases h : n < 112
  · obtain ⟨k, rfl⟩ : ∃ k, n = k + 100 := ⟨n - 100, by omega⟩
    rw [show ((k + 100 : Nat) : Int) = (k : Int) + 100 by omega]
    exact c08_special w k (by omega)
  · obtain ⟨k, rfl⟩ : ∃ k, n = k + 112 := ⟨n - 112, by omega⟩
    rw [show ((k + 112 : Nat) : Int) = (k : Int) + 112 by omega]
    exact c08_token w k (by omega)
end Go.Proofs.YtgobdndjemicjaaGreatDoor
namespace Go.Proofs.YtgobdndjemicjaaGreatDoor
open Go Go.RowKit Go.Shelf

theorem CardIs.absLen {w : World} {n : Nat} {c : CdV} {d : CardF} (h : CardIs w n c d) : c.abs.n = d.abs.length := by
  obtain ⟨l, h1, _, h3⟩ := h.abs
  have := h1.len
  rw [List.length_map] at this
  rw [this]
  exact h3.get.1
theorem agree_len {n : Nat} (h : n < 120) : (cardF n).abs.length = (cardN n).abs.length := by
  have := agree_all n h
  unfold agreeB at this
  simp only [Bool.and_eq_true, beq_iff_eq, decide_eq_true_eq] at this
  exact this.1.2
set_option maxRecDepth 100000 in
theorem c08_none (w : World) (n : Int) (hn : n < 0 ∨ 120 ≤ n) : Calls Tryz.prog 39 #[.int .i64 n] w fun e w' => e = .returned (.tuple #[.agg zeroCd.arr, .bool false]) ∧ Grow w w' := by
  unfold zeroCd
  by_cases h0 : n < 0
  · clear hn
    go_enter Tryz.func39, Tryz.ntmps39
    go_wp2_with fail
    refine bodyPost_ret (results2_Card rfl _ _ _ rfl ?_) rfl ?_
    · go_simp
    · exact ⟨by first | rfl | (go_simp; done) | (go_simp; rfl), grI⟩
  · have h1 : (119 : Int) < n := by omega
    clear hn
    go_enter Tryz.func39, Tryz.ntmps39
    go_wp2_with fail
    refine bodyPost_ret (results2_Card rfl _ _ _ rfl ?_) rfl ?_
    · go_simp
    · exact ⟨by first | rfl | (go_simp; done) | (go_simp; rfl), grI⟩
set_option maxRecDepth 100000 in
set_option maxHeartbeats 4000000 in
theorem has21_any (T8 : Table08) (S : St) (V : SV) (w : World) (R : RepSt w V S) (id n : Int) :
    Calls Tryz.prog 38 #[.agg (stA V S.num), .int .i64 id, .int .i64 n] w fun e w' => e = .returned (.bool (hasAbB S id n)) ∧ Grow w w' := by
  have hN := R.objs.len
  have HT := Lib.hid T8
  clear T8
  by_cases hi : 0 ≤ id ∧ id < S.objs.length
  · obtain ⟨a, rfl⟩ := Int.eq_ofNat_of_zero_le hi.1
    have ha : a < S.objs.length := by omega
    have ha1 : (a : Int) < S.objs.length := hi.2
    have hoc := R.objs.cell a 0 ha (by omega)
    have hob := (cell_blk hoc).1
    rw [Nat.add_zero] at hoc
    by_cases hc : 0 ≤ gt (rowAt S.objs a) 0 ∧ gt (rowAt S.objs a) 0 < 120
    · obtain ⟨k, hk⟩ := Int.eq_ofNat_of_zero_le hc.1
      have hk120 : k < 120 := by omega
      have e : hasAbB S a n = decide (0 ≤ n ∧ n < (cardF k).abs.length) := by
        unfold hasAbB
        rw [Int.toNat_natCast, decide_eq_true hi, decide_eq_true hc, hk, Int.toNat_natCast, agree_len hk120]; rfl
      rw [e]
      rw [hk] at hoc
      change w.cell? _ = some (Value.int .i64 (k : Int)) at hoc
      have HK := Lib.hid (fun W => HT.out W k hk120)
      generalize cardF k = d at *
      clear R hi hc hk e
      by_cases h0 : 0 ≤ n
      · by_cases h1 : n < d.abs.length
        · rw [decide_eq_true ⟨h0, h1⟩]
          go_enter Tryz.func38, Tryz.ntmps38
          go_wp2_with (go_at_call 39; refine (HK.out _).mono ?_; rintro e' w' ⟨c, rfl, hC, nx, rfl⟩; have hl := hC.absLen; clear hC)
          go_ret
          exact ⟨rfl, grI⟩
        · rw [decide_eq_false (fun h => h1 h.2)]
          have h1' : (n < (d.abs.length : Int)) = False := by simpa using h1
          clear h1
          go_enter Tryz.func38, Tryz.ntmps38
          go_wp2_with (go_at_call 39; refine (HK.out _).mono ?_; rintro e' w' ⟨c, rfl, hC, nx, rfl⟩; have hl := hC.absLen; clear hC)
          go_ret
          exact ⟨rfl, grI⟩
      · rw [decide_eq_false (fun h => h0 h.1)]
        have h0' : (0 ≤ n) = False := by simpa using h0
        clear h0
        go_enter Tryz.func38, Tryz.ntmps38
        go_wp2_with (go_at_call 39; refine (HK.out _).mono ?_; rintro e' w' ⟨c, rfl, hC, nx, rfl⟩; clear hC)
        go_ret
        exact ⟨rfl, grI⟩
    · have e : hasAbB S a n = false := by
        unfold hasAbB
        rw [Int.toNat_natCast, decide_eq_true hi, decide_eq_false hc]; rfl
      rw [e]
      change w.cell? _ = some (Value.int .i64 (gt (rowAt S.objs a) 0)) at hoc
      have HK := Lib.hid (fun W => c08_none W (gt (rowAt S.objs a) 0) (by omega))
      generalize gt (rowAt S.objs a) 0 = x at *
      unfold zeroCd at HK
      have hz : Sl.nil.n = 0 := rfl
      clear R hi hc e HT
      by_cases h0 : 0 ≤ n
      · have h1 : (n < 0) = False := by simpa using h0
        go_enter Tryz.func38, Tryz.ntmps38
        go_wp2_with (go_at_call 39; refine (HK.out _).mono ?_; rintro e' w' ⟨rfl, nx, rfl⟩)
        go_ret
        exact ⟨rfl, grI⟩
      · have h0' : (0 ≤ n) = False := by simpa using h0
        clear h0
        go_enter Tryz.func38, Tryz.ntmps38
        go_wp2_with (go_at_call 39; refine (HK.out _).mono ?_; rintro e' w' ⟨rfl, nx, rfl⟩)
        go_ret
        exact ⟨rfl, grI⟩
  · have e : hasAbB S id n = false := by unfold hasAbB; rw [decide_eq_false hi]; rfl
    rw [e]
    clear R e HT
    by_cases h0 : id < 0
    · clear hi
      go_enter Tryz.func38, Tryz.ntmps38
      go_wp2_with fail
      go_ret
      exact ⟨rfl, grI⟩
    · have h1 : (S.objs.length : Int) ≤ id := by omega
      clear hi
      go_enter Tryz.func38, Tryz.ntmps38
      go_wp2_with fail
      go_ret
      exact ⟨rfl, grI⟩
set_option maxRecDepth 100000 in
set_option maxHeartbeats 4000000 in
theorem of21_yes (T8 : Table08) (S : St) (V : SV) (w : World) (R : RepSt w V S) (a n : Nat) (ha : a < S.objs.length) (hk : gt (rowAt S.objs a) 13 = 2) (hn : gt (rowAt S.objs a) 14 = n) (hh : hasAbB S a n = true) :
    Calls Tryz.prog 11 #[.agg (stA V S.num), .int .i64 (a : Int)] w fun e w' => ∃ ab : AbV, e = .returned (.tuple #[.agg ab.arr, .bool true]) ∧ AbIs w' w.heap.size ab ((cardF (gt (rowAt S.objs a) 0).toNat).abs.getD n zeroAF) ∧ Grow w w' := by
  have hh2 := hh
  unfold hasAbB at hh2
  simp only [Bool.and_eq_true, decide_eq_true_eq] at hh2
  obtain ⟨_, h2, h3, h4⟩ := hh2
  rw [Int.toNat_natCast] at h2 h4
  have HH := Lib.hid (fun W (r : RepSt W V S) => by have := has21_any T8 S V W r a n; rw [hh] at this; exact this)
  obtain ⟨k, hx⟩ := Int.eq_ofNat_of_zero_le h2.1
  have hk120 : k < 120 := by omega
  rw [hx, Int.toNat_natCast] at h4 ⊢
  rw [← agree_len hk120] at h4
  have HK := Lib.hid (fun W => T8 W k hk120)
  have hlen : n < (cardF k).abs.length := by omega
  have hN := R.objs.len
  have c0 := R.objs.cell a 0 ha (by omega)
  have c13 := R.objs.cell a 13 ha (by omega)
  have c14 := R.objs.cell a 14 ha (by omega)
  rw [hk] at c13
  rw [hn] at c14
  rw [hx, Nat.add_zero] at c0
  have hob := (cell_blk c13).1
  have ha1 : (a : Int) < S.objs.length := by omega
  have g1 : decide ((a : Int) < 0) = false := by simp
  have g2 : decide (S.objs.length ≤ a) = false := by simp; omega
  have HR := Lib.hid R
  generalize cardF k = d at *
  clear R h2 h4 hx hk hn hh h3 T8
  change w.cell? _ = some (Value.int .i64 2) at c13
  change w.cell? _ = some (Value.int .i64 (n : Int)) at c14
  change w.cell? _ = some (Value.int .i64 (k : Int)) at c0
  go_enter Tryz.func11, Tryz.ntmps11
  go_wp2_with fail
  refine wp_region_grow (by kernel_rfl) (by kernel_rfl) ?_; (repeat (go_big_quiet_step ( (go_at_call 38; first | refine Calls.grow2 (HH.out _ (HR.out.grow grI)) | refine Calls.grow (HH.out _ (HR.out.grow grI))) ))); refine wpQuiet_nil ?_; rintro _ ⟨nx, rfl⟩
  rename Ext => nQ
  go_wp2_with fail
  refine (HK.out _).mono ?_
  rintro e' w' ⟨c, rfl, hC, nK, rfl⟩
  (try simp only [drew_plus] at hC); (try simp only [plus_plus] at hC)
  obtain ⟨l, r1, r0, r2⟩ := hC.abs
  obtain ⟨g1, g2⟩ := r2.get
  have hnl : n < l.length := by omega
  have hln : l[n]? = some l[n] := List.getElem?_eq_getElem hnl
  have hab := g2 n _ hln
  generalize l[n] = ab at *
  have hcn : c.abs.n = l.length := by rw [r1.len, List.length_map]
  obtain ⟨q1, q2, q3⟩ := r1.at (by decide) (i := n) (x := ab.arr) (by rw [List.getElem?_map, hln]; rfl)
  have hnl1 : (n : Int) < l.length := by omega
  have q0 : w.heap.size + 1 + 1 ≤ c.abs.b := by
    rcases r0 with h | h
    · rw [h] at hnl; cases hnl
    · simp only [plus_size, alloc_size'] at h; omega
  rw [plus_size] at q1
  rw [blk_plus, if_neg (by simp only [alloc_size']; omega)] at q2 q3
  simp only [alloc_size'] at q1
  have HAB := Lib.hid hab
  clear hC r1 r2 g1 g2 hab hln r0
  go_wp2_with fail
  refine wp_region_order [0, 1, 2, 3, 4, 5, 6, 7, 8, 9] 10 [11] (by kernel_rfl) (by kernel_rfl) ?_; simp only [pickO, List.getElem?_cons_zero, List.getElem?_cons_succ]; (repeat (go_big_quiet_step ( fail ))); refine wpQuiet_nil ?_; rintro _ ⟨nx, rfl⟩
  go_wp2_with fail
  refine bodyPost_ret (results2_Ability rfl _ _ _ rfl ?_) rfl ?_
  · go_simp
  · refine ⟨ab, by first | rfl | (go_simp; done) | (go_simp; rfl), ?_, grI⟩
    have hA := HAB.out
    exact ((hA.off (b := w.heap.size + 1) (w' := ((w.alloc (.cells (stA V S.num) 29)).alloc (.cells ab.arr 38)).plus (nQ.and nK)) (by repeat (first | exact Off.base _ _ _ _ (alloc_size' _ _).symm | refine Off.plus ?_ _ | refine Off.alloc ?_ _)) (by simp only [plus_size, alloc_size']; omega)).less (by simp only [plus_size, alloc_size']; omega)).grow grI
set_option maxRecDepth 100000 in
set_option maxHeartbeats 4000000 in
theorem of21_no (T8 : Table08) (S : St) (V : SV) (w : World) (R : RepSt w V S) (id : Int) (h : ofYes S id = false) :
    Calls Tryz.prog 11 #[.agg (stA V S.num), .int .i64 id] w fun e w' => e = .returned (.tuple #[.agg zeroAb.arr, .bool false]) ∧ Grow w w' := by
  have hN := R.objs.len
  unfold zeroAb
  by_cases hi : 0 ≤ id ∧ id < S.objs.length
  · obtain ⟨a, rfl⟩ := Int.eq_ofNat_of_zero_le hi.1
    have ha : a < S.objs.length := by omega
    have ha1 : (a : Int) < S.objs.length := hi.2
    have g1 : decide ((a : Int) < 0) = false := by simp
    have g2 : decide (S.objs.length ≤ a) = false := by simp; omega
    unfold ofYes at h
    rw [Int.toNat_natCast, decide_eq_true hi, Bool.true_and] at h
    have c13 := R.objs.cell a 13 ha (by omega)
    have c14 := R.objs.cell a 14 ha (by omega)
    have hob := (cell_blk c13).1
    by_cases hk : gt (rowAt S.objs a) 13 = 2
    · rw [decide_eq_true hk, Bool.true_and] at h
      have HH := Lib.hid (fun W (r : RepSt W V S) => by have := has21_any T8 S V W r a (gt (rowAt S.objs a) 14); rw [h] at this; exact this)
      rw [hk] at c13
      generalize gt (rowAt S.objs a) 14 = n at *
      have HR := Lib.hid R
      clear R h hk hi T8
      change w.cell? _ = some (Value.int .i64 2) at c13
      change w.cell? _ = some (Value.int .i64 n) at c14
      go_enter Tryz.func11, Tryz.ntmps11
      go_wp2_with fail
      refine wp_region_grow (by kernel_rfl) (by kernel_rfl) ?_; (repeat (go_big_quiet_step ( (go_at_call 38; first | refine Calls.grow2 (HH.out _ (HR.out.grow grI)) | refine Calls.grow (HH.out _ (HR.out.grow grI))) ))); refine wpQuiet_nil ?_; rintro _ ⟨nx, rfl⟩
      go_wp2_with fail
      refine bodyPost_ret (results2_Ability rfl _ _ _ rfl ?_) rfl ?_
      · go_simp
      · exact ⟨by first | rfl | (go_simp; done) | (go_simp; rfl), grI⟩
    · clear h c14 T8
      generalize gt (rowAt S.objs a) 13 = k at *
      have hb : (k != 2) = true := by simpa using hk
      clear hk
      clear R hi
      change w.cell? _ = some (Value.int .i64 k) at c13
      go_enter Tryz.func11, Tryz.ntmps11
      go_wp2_with fail
      refine wp_region_grow (by kernel_rfl) (by kernel_rfl) ?_; (repeat (go_big_quiet_step ( fail ))); refine wpQuiet_nil ?_; rintro _ ⟨nx, rfl⟩
      go_wp2_with fail
      refine bodyPost_ret (results2_Ability rfl _ _ _ rfl ?_) rfl ?_
      · go_simp
      · exact ⟨by first | rfl | (go_simp; done) | (go_simp; rfl), grI⟩
  · clear h R T8
    by_cases h0 : id < 0
    · clear hi
      have g1 : decide (id < 0) = true := by simpa using h0
      go_enter Tryz.func11, Tryz.ntmps11
      go_wp2_with fail
      refine wp_region_grow (by kernel_rfl) (by kernel_rfl) ?_; (repeat (go_big_quiet_step ( fail ))); refine wpQuiet_nil ?_; rintro _ ⟨nx, rfl⟩
      go_wp2_with fail
      refine bodyPost_ret (results2_Ability rfl _ _ _ rfl ?_) rfl ?_
      · go_simp
      · exact ⟨by first | rfl | (go_simp; done) | (go_simp; rfl), grI⟩
    · have h1 : (S.objs.length : Int) ≤ id := by omega
      have g1 : decide (id < 0) = false := by simpa using h0
      have g2 : decide ((S.objs.length : Int) ≤ id) = true := by simpa using h1
      clear hi
      go_enter Tryz.func11, Tryz.ntmps11
      go_wp2_with fail
      refine wp_region_grow (by kernel_rfl) (by kernel_rfl) ?_; (repeat (go_big_quiet_step ( fail ))); refine wpQuiet_nil ?_; rintro _ ⟨nx, rfl⟩
      go_wp2_with fail
      refine bodyPost_ret (results2_Ability rfl _ _ _ rfl ?_) rfl ?_
      · go_simp
      · exact ⟨by first | rfl | (go_simp; done) | (go_simp; rfl), grI⟩
end Go.Proofs.YtgobdndjemicjaaGreatDoor
namespace Go.Proofs.YtgobdndjemicjaaGreatDoor
open Go Go.RowKit

@[go_sem] theorem EfV.get3 (a : EfV) : a.arr[3]? = some (I a.who) := rfl
@[go_sem] theorem EfV.get3' (a : EfV) (h : 3 < a.arr.size) : a.arr[3]'h = I a.who := rfl
@[go_sem] theorem CdV.get2 (c : CdV) : c.arr[2]? = some (.bool c.fast) := rfl
@[go_sem] theorem CdV.get2' (c : CdV) (h : 2 < c.arr.size) : c.arr[2]'h = .bool c.fast := rfl
@[go_sem] theorem CdV.sub3 (c : CdV) : sub c.arr 3 6 = cellsOf [c.c0, c.c1, c.c2, c.c3, c.c4, c.c5] := rfl
@[go_sem] theorem AbV.get7 (a : AbV) : a.arr[7]? = some (.bool a.tap) := rfl
@[go_sem] theorem AbV.get7' (a : AbV) (h : 7 < a.arr.size) : a.arr[7]'h = .bool a.tap := rfl
@[go_sem] theorem AbV.get8 (a : AbV) : a.arr[8]? = some (I a.tg) := rfl
@[go_sem] theorem AbV.get8' (a : AbV) (h : 8 < a.arr.size) : a.arr[8]'h = I a.tg := rfl
@[go_sem] theorem AbV.sub1 (a : AbV) : sub a.arr 1 6 = cellsOf [a.c0, a.c1, a.c2, a.c3, a.c4, a.c5] := rfl
@[go_sem] theorem run_equal_cost (w : World) (c : List Int) (h : c.length = 6) : (Op.equalIn 10000 33 (.agg (cellsOf c)) (.agg (cellsOf c))).run Tryz.prog w = .ok true w := by
  have := run_equalIn_ints w 33 3 6 Tryz.underlying33 Tryz.underlying3 (by kernel_rfl) 9998 c c h h
  rw [this]; simp
set_option maxRecDepth 100000 in
theorem effects_flat (w : World) (op n m who : Int) (s1 s2 : Sl) (h1 : s1.n = 0) (h2 : s2.n = 0) :
    Calls Tryz.prog 40 #[.agg (EfV.arr ⟨op, n, m, who, s1⟩), .agg (EfV.arr ⟨op, n, m, who, s2⟩)] w fun e w' => e = .returned (.bool true) ∧ Grow w w' := by
  go_enter Tryz.func40, Tryz.ntmps40
  go_wp2_with fail
  go_loopw [44] (fun i wr => i = .int .i64 0 ∧ Grow w wr) (fun _ _ => 0)
  case atStart => exact ⟨rfl, grI⟩
  case round =>
    obtain ⟨rfl, hG⟩ := hrel
    go_wp2_with fail
    go_ret
    exact ⟨rfl, hG⟩
set_option maxRecDepth 100000 in
set_option maxHeartbeats 2000000 in
theorem effects_same (w : World) (p q : Nat) (x y : EfV) (f : EfF) (hx : EfIs w p x f) (hy : EfIs w q y f) (hl : f.subs.length ≤ 1000) :
    Calls Tryz.prog 40 #[.agg x.arr, .agg y.arr] w fun e w' => e = .returned (.bool true) ∧ Grow w w' := by
  obtain ⟨a0, a1, a2, a3, xs⟩ := x
  obtain ⟨y0, y1, y2, y3, ys⟩ := y
  obtain rfl : y0 = a0 := hy.op.trans hx.op.symm
  obtain rfl : y1 = a1 := hy.amt.trans hx.amt.symm
  obtain rfl : y2 = a2 := hy.mor.trans hx.mor.symm
  obtain rfl : y3 = a3 := hy.who.trans hx.who.symm
  have HX := Lib.hid (show RowsV w xs 5 (f.subs.map subV) from hx.subs)
  have HY := Lib.hid (show RowsV w ys 5 (f.subs.map subV) from hy.subs)
  have n1 : xs.n = f.subs.length := by rw [HX.out.len, List.length_map]
  have n2 : ys.n = f.subs.length := by rw [HY.out.len, List.length_map]
  have HF := Lib.hid (fun W (r : List Int) => effects_flat W (gt r 0) (gt r 1) (gt r 2) (gt r 3) .nil .nil rfl rfl)
  clear hx hy
  generalize f.subs = l at *
  go_enter Tryz.func40, Tryz.ntmps40
  go_wp2_with fail
  go_loopw [44] (fun i wr => ∃ k : Nat, k ≤ l.length ∧ i = .int .i64 k ∧ Grow ((w.alloc (.cells (EfV.arr ⟨y0, y1, y2, y3, xs⟩) 36)).alloc (.cells (EfV.arr ⟨y0, y1, y2, y3, ys⟩) 36)) wr) (fun i _ => l.length - (intOf i).toNat)
  case atStart => exact ⟨0, by omega, rfl, grI⟩
  case round =>
    obtain ⟨k, hk, rfl, hG⟩ := hrel
    obtain ⟨z, rfl⟩ := hG
    by_cases hlt : k < l.length
    · have hkl : l[k]? = some l[k] := List.getElem?_eq_getElem hlt
      obtain ⟨q1, q2, q3⟩ := (HX.out).at (by decide) (i := k) (x := subV l[k]) (by rw [List.getElem?_map, hkl]; rfl)
      obtain ⟨u1, u2, u3⟩ := (HY.out).at (by decide) (i := k) (x := subV l[k]) (by rw [List.getElem?_map, hkl]; rfl)
      have v1 : ¬ xs.b = w.heap.size := by omega
      have v2 : ¬ xs.b = w.heap.size + 1 := by omega
      have v3 : ¬ ys.b = w.heap.size := by omega
      have v4 : ¬ ys.b = w.heap.size + 1 := by omega
      have HK : Hid (∀ W, Calls Tryz.prog 40 #[.agg (subV l[k]), .agg (subV l[k])] W fun e w' => e = .returned (.bool true) ∧ Grow W w') := fun W => HF.out W l[k]
      generalize subV l[k] = r at *
      have hlt1 : (k : Int) < l.length := by omega
      clear hkl
      go_wp2_with fail
      refine wp_region_grow (by kernel_rfl) (by kernel_rfl) ?_; (repeat (go_big_quiet_step ( (go_at_call 40; first | refine Calls.grow2 (HK.out _) | refine Calls.grow (HK.out _)) ))); refine wpQuiet_nil ?_; rintro _ ⟨nx, rfl⟩
      go_wp2_with fail
      go_roundw
      case rel => exact ⟨k + 1, by omega, by go_num, grI⟩
      case measure => simp [intOf]; omega
    · go_wp2_with fail
      go_ret
      exact ⟨rfl, grI⟩
def oneCd (s : Sl) : CdV := ⟨0, 0, false, 0, 0, 0, 0, 0, 0, 0, 0, 0, s⟩
set_option maxRecDepth 100000 in
set_option maxHeartbeats 4000000 in
theorem cards_same (w : World) (p q : Nat) (x y : AbV) (f : AbF) (s1 s2 : Sl) (R1 : RowsV w s1 14 [x.arr]) (R2 : RowsV w s2 14 [y.arr]) (hx : AbIs w p x f) (hy : AbIs w q y f) (hl : f.ef.subs.length ≤ 1000) :
    Calls Tryz.prog 12 #[.agg (oneCd s1).arr, .agg (oneCd s2).arr] w fun e w' => e = .returned (.bool true) ∧ Grow w w' := by
  have n1 : s1.n = 1 := R1.len
  have n2 : s2.n = 1 := R2.len
  obtain ⟨x0, x1, x2, x3, x4, x5, x6, xt, xg, xe⟩ := x
  obtain ⟨y0, y1, y2, y3, y4, y5, y6, yt, yg, ye⟩ := y
  obtain rfl : y0 = x0 := hy.wh.trans hx.wh.symm
  have hc : [y1, y2, y3, y4, y5, y6] = [x1, x2, x3, x4, x5, x6] := hy.cost.trans hx.cost.symm
  simp only [List.cons.injEq, and_true] at hc
  obtain ⟨rfl, rfl, rfl, rfl, rfl, rfl⟩ := hc
  obtain rfl : yt = xt := hy.tap.trans hx.tap.symm
  obtain rfl : yg = xg := hy.tg.trans hx.tg.symm
  have HE := Lib.hid (fun W (g : Grow w W) => effects_same W p q xe ye f.ef (hx.ef.grow g) (hy.ef.grow g) hl)
  have H1 := Lib.hid R1
  have H2 := Lib.hid R2
  clear R1 R2 hx hy
  unfold oneCd
  go_enter Tryz.func12, Tryz.ntmps12
  go_wp2_with fail
  go_loopw [67] (fun i wr => ∃ k : Nat, k ≤ 1 ∧ i = .int .i64 k ∧ Grow ((w.alloc (.cells (CdV.arr ⟨0, 0, false, 0, 0, 0, 0, 0, 0, 0, 0, 0, s1⟩) 44)).alloc (.cells (CdV.arr ⟨0, 0, false, 0, 0, 0, 0, 0, 0, 0, 0, 0, s2⟩) 44)) wr) (fun i _ => 1 - (intOf i).toNat)
  case atStart => exact ⟨0, by omega, rfl, grI⟩
  case round =>
    obtain ⟨k, hk, rfl, hG⟩ := hrel
    obtain ⟨z, rfl⟩ := hG
    by_cases hlt : k < 1
    · obtain rfl : k = 0 := by omega
      obtain ⟨q1, q2, q3⟩ := (H1.out).at (by decide) (i := 0) (x := AbV.arr ⟨y0, y1, y2, y3, y4, y5, y6, yt, yg, xe⟩) rfl
      obtain ⟨u1, u2, u3⟩ := (H2.out).at (by decide) (i := 0) (x := AbV.arr ⟨y0, y1, y2, y3, y4, y5, y6, yt, yg, ye⟩) rfl
      rw [Nat.zero_mul, Nat.add_zero] at q2 q3 u2 u3
      go_wp2_with (go_at_call 40; refine (HE.out _ grI).mono ?_; rintro e' w' ⟨rfl, nx, rfl⟩)
      go_roundw
      case rel => exact ⟨1, by omega, by go_num, grI⟩
      case measure => simp [intOf]
    · go_wp2_with fail
      go_ret
      exact ⟨rfl, grI⟩
end Go.Proofs.YtgobdndjemicjaaGreatDoor
namespace Go.Proofs.YtgobdndjemicjaaGreatDoor
open Go Go.RowKit Go.Shelf

theorem subs_few : ∀ n, n < 120 → ((cardF n).abs.all fun a => decide (a.ef.subs.length ≤ 1000)) = true := by decide +kernel
theorem subs_le {n : Nat} (h : n < 120) (i : Nat) : ((cardF n).abs.getD i zeroAF).ef.subs.length ≤ 1000 := by
  rw [List.getD_eq_getElem?_getD]
  cases hg : (cardF n).abs[i]? with
  | none => exact Nat.zero_le _
  | some a =>
    have := List.all_eq_true.1 (subs_few n h) a (List.mem_of_getElem? hg)
    simpa using this
theorem zeroAb_is (w : World) (n : Nat) : AbIs w n zeroAb zeroAF :=
  ⟨rfl, rfl, rfl, rfl, ⟨rfl, rfl, rfl, rfl, RowsV.nil _ _, fun b hb => absurd hb (by simp [zeroAb, Sl.owns])⟩⟩
@[go_sem] theorem build_card7 (w : World) (b o n k : Nat) : (bdRow 44 #[(7, .slice (some ⟨b, o, none⟩) n k)]).run Tryz.prog w = .ok (.value (.agg (CdV.arr ⟨0, 0, false, 0, 0, 0, 0, 0, 0, 0, 0, 0, .mk b o n k⟩))) w := by kernel_rfl
set_option maxRecDepth 100000 in
set_option maxHeartbeats 4000000 in
theorem of_law (T8 : Table08) (S : St) (V : SV) (w : World) (R : RepSt w V S) (HA : ∀ W, Grow w W → Calls Tryz.prog 8 #[] W fun e w' => e = .returned (.bool true) ∧ Grow W w') (id : Int) :
    Calls Tryz.prog 3 #[.agg (stA V S.num), .int .i64 id] w fun e w' => e = .returned (.bool true) ∧ Grow w w' := by
  have HAl := Lib.hid HA
  have HLo := Lib.hid (fun W (g : Grow w W) => long_any S V 40 (by omega) W (R.grow g))
  cases hl : longB S 40 with
  | true =>
    rw [hl] at HLo
    clear R hl HA T8
    go_enter Tryz.func3, Tryz.ntmps3
    go_wp2_with (first | (go_at_call 8; refine (HAl.out _ grI).mono ?_; rintro e' w' ⟨rfl, nx, rfl⟩) | (go_at_call 9; refine (HLo.out _ grI).mono ?_; rintro e' w' ⟨rfl, nx, rfl⟩))
    go_ret
    exact ⟨rfl, grI⟩
  | false =>
    rw [hl] at HLo
    obtain ⟨f, bv, hf, HO, HD⟩ : ∃ (f : AbF) (bv : Bool), f.ef.subs.length ≤ 1000 ∧
        (∀ W, RepSt W V S → Calls Tryz.prog 10 #[.agg (stA V S.num), .int .i64 id] W fun e w' => ∃ ab : AbV, e = .returned (.tuple #[.agg ab.arr, .bool bv]) ∧ AbIs w' W.heap.size ab f ∧ Grow W w') ∧
        (∀ W, RepSt W V S → Calls Tryz.prog 11 #[.agg (stA V S.num), .int .i64 id] W fun e w' => ∃ ab : AbV, e = .returned (.tuple #[.agg ab.arr, .bool bv]) ∧ AbIs w' W.heap.size ab f ∧ Grow W w') := by
      cases ho : ofYes S id with
      | false => exact ⟨zeroAF, false, by decide, fun W r => (tof_no S V W r id ho).mono fun _ _ ⟨h1, h2⟩ => ⟨zeroAb, h1, zeroAb_is _ _, h2⟩, fun W r => (of21_no T8 S V W r id ho).mono fun _ _ ⟨h1, h2⟩ => ⟨zeroAb, h1, zeroAb_is _ _, h2⟩⟩
      | true =>
        unfold ofYes at ho
        simp only [Bool.and_eq_true, decide_eq_true_eq] at ho
        obtain ⟨hi, hk, hh⟩ := ho
        obtain ⟨a, rfl⟩ := Int.eq_ofNat_of_zero_le hi.1
        rw [Int.toNat_natCast] at hk hh
        have hh2 := hh
        unfold hasAbB at hh2
        simp only [Bool.and_eq_true, decide_eq_true_eq] at hh2
        obtain ⟨_, h2, h3, _⟩ := hh2
        rw [Int.toNat_natCast] at h2
        obtain ⟨n, hn⟩ := Int.eq_ofNat_of_zero_le h3
        rw [hn] at hh
        exact ⟨_, true, subs_le (by omega) n, fun W r => tof_yes S V W r a n (by omega) hk hn hh, fun W r => of21_yes T8 S V W r a n (by omega) hk hn hh⟩
    have HOf := Lib.hid HO
    have HDo := Lib.hid HD
    have HR := Lib.hid R
    clear R hl HA T8 HO HD
    go_enter Tryz.func3, Tryz.ntmps3
    go_wp2_with (first | (go_at_call 8; refine (HAl.out _ grI).mono ?_; rintro e' w' ⟨rfl, nx, rfl⟩) | (go_at_call 9; refine (HLo.out _ grI).mono ?_; rintro e' w' ⟨rfl, nx, rfl⟩) | (go_at_call 10; refine (HOf.out _ (HR.out.grow grI)).mono ?_; rintro e' w' ⟨ab, rfl, hA, nO, rfl⟩; (try simp only [drew_plus] at hA); (try simp only [plus_plus] at hA); have HA1 := Lib.hid hA; clear hA) | (go_at_call 11; refine (HDo.out _ (HR.out.grow grI)).mono ?_; rintro e' w' ⟨ac, rfl, hA, nD, rfl⟩; (try simp only [drew_plus] at hA); (try simp only [plus_plus] at hA); have HA2 := Lib.hid hA; clear hA) | (go_at_call 12; refine (cards_same _ _ _ ab ac f (.mk _ 0 1 1) (.mk _ 0 1 1) (RowsV.one (x := AbV.arr ab) (by go_simp) (by go_simp) (by go_simp)) (RowsV.one (x := AbV.arr ac) (by go_simp) (by go_simp) (by go_simp)) (HA1.out.grow grI) (HA2.out.grow grI) hf).mono ?_; rintro e' w' ⟨rfl, nC, rfl⟩))
    go_ret
    exact ⟨rfl, grI⟩
end Go.Proofs.YtgobdndjemicjaaGreatDoor
namespace Go.Proofs.YtgobdndjemicjaaGreatDoor
open Go Go.RowKit Go.ChangeShapes Go.WideShapes Go.ChangeAt

/-- The heap that the program's own run leaves meets the condition. -/
theorem door_metTriggerOf (os : Os) (args : Array Value) : laidMetH Tryz.prog laid4 ((World.doorLaid Tryz.prog 400 os).forCall (fun _ _ => 0) ⟨#[], args, []⟩).memory :=
  laidMetH_of_parts3 (fuel := 8) (laidMet_of_run' 8 (by kernel_rfl) (by kernel_rfl)) (by kernel_rfl) (by kernel_rfl)

/-- The empty state. -/
def emptyStTriggerOf : Value := .agg ((List.replicate 12 (Value.slice none 0 0) ++ List.replicate 25 (Value.int .i64 0)).toArray)

set_option maxRecDepth 100000 in
theorem triggerOf_lifted (os : Os) (started : os.Started) (H : Type) (enc : TypeId × Value → H) :
    ReturnsInHanded {} Tryz.checked os 3 .any (fun w args => (Rows.triggerOfSpec.pre enc Tryz.prog Tryz.f3 [] false w args ∧ laidMetH Tryz.prog laid4 w) ∧ sizedMet enc Tryz.prog Tryz.f3 (OpenSpec.ofChange Rows.triggerOfSpec) false w args)
      (Rows.triggerOfSpec.post enc Tryz.prog Tryz.f3 false true false false) := by
  refine returnsInHanded_of_change_and (C := Tryz.checked) (X := fun w _ => laidMetH Tryz.prog laid4 w) (fun _ _ _ hh h => h.of_heap hh) own_Tryz started (by kernel_rfl) Tryz.func3
    (ChangeSpec.witness_shaped (enc := enc) (C := Tryz.checked) (os := os) (X := fun w _ => laidMetH Tryz.prog laid4 w) false (World.doorLaid Tryz.prog 400 os) #[emptyStTriggerOf, .int .i64 0] 8 rfl (World.shaped_of_RefB (by kernel_rfl) (by kernel_rfl)) (by kernel_rfl) (by kernel_rfl) (by kernel_rfl) (door_metTriggerOf os _)) ?_
  intro W base args ds gs before hval0 hW _ _ hL _
  have hval : ∀ (j : Nat) t v, Tryz.f3.params[j]? = some t → args[j]? = some v → Value.okWide Tryz.prog W .any base t v := hval0
  have hW' := hW
  obtain ⟨p, q, hA0, hV, rfl, _, _⟩ := hW
  have hA : DataW.TrodAll enc Tryz.prog W 0 (fun _ => true) true Tryz.f3.params.toList args.toList ds p := hA0
  rw [Tryz.params3] at hA hval
  obtain ⟨v0, v1, d0, d1, p0, p1, rfl, rfl, rfl, h0, h1⟩ := trodAll_two hA
  obtain ⟨rfl, rfl⟩ := trodVars_none hV
  obtain ⟨V0, S0, rfl, R0⟩ := open_State (hval 0 29 v0 rfl rfl) h0
  obtain ⟨n1, rfl, _⟩ := open_int Tryz.underlying3 (hval 1 3 v1 rfl rfl) h1
  refine (of_law table08 S0 V0 W R0 (fun W' g => alive21_any W' ((globE_of_laid hL).kept (g.kept _) (fun _ hk => Or.inr (Nat.le_trans g.below.size hk)))) n1).mono fun e W' ⟨he, hg⟩ => ?_
  subst he
  exact ⟨_, rfl, law_post laidOut_Tryz hW' rfl (by kernel_rfl) Tryz.underlying4 (by kernel_rfl) rfl rfl rfl hg.below⟩

theorem triggerOf_plain : Rows.TriggerOfSaid :=
  OpenClaim.holds_of_wide 3 Tryz.f3 rfl rfl rfl rfl rfl rfl rfl ⟨rfl, rfl, rfl, rfl, rfl⟩ rfl rfl rfl rfl rfl (by kernel_rfl) Tryz.func3 (by kernel_rfl)
    (of_decide_eq_true (by kernel_rfl)) (by unfold Func.isWrapper; first | (rw [if_pos (by decide +kernel)]; kernel_rfl) | (rw [if_neg (by decide +kernel)]; exact ⟨rfl, rfl⟩))
    (fun os started H enc _ => triggerOf_lifted os started H enc)
end Go.Proofs.YtgobdndjemicjaaGreatDoor
namespace Go.Proofs.YtgobdndjemicjaaGreatDoor
open Go

theorem triggerOf_holds : Rows.TriggerOfCardSaid :=
  Claim7.holds_tied_plain_at .later [] [.data, .data, .widerDeep, .data] true (true, "7ee5918bc5168af762b4280bf422be672ee7d56b6d83da876fb0fe5d82d8e72c") true
    triggerOf_plain (fun _ h => by cases h) (by kernel_rfl) (fun _ h => by cases h) triggerOf_row_tie rfl ⟨rfl, rfl⟩ (by kernel_rfl) rfl
    (fun f fn hf hfn => by
      obtain rfl : f = 3 := Option.some.inj (hf.symm.trans (by kernel_rfl))
      obtain rfl : fn = Tryz.f3 := (Option.some.inj (Tryz.func3.symm.trans hfn)).symm
      exact ⟨by kernel_rfl, fun j t ht => by
        rw [Tryz.params3] at ht
        have hm : t ∈ [29, 3] := by simpa using Array.mem_of_getElem? ht
        have hall : ([29, 3].all fun u => !Tryz.prog.wantsStandIn u) = true := by kernel_rfl
        exact (show Tryz.prog.wantsStandIn t = false by simpa using List.all_eq_true.1 hall t hm)⟩)
    (by kernel_rfl)
end Go.Proofs.YtgobdndjemicjaaGreatDoor
