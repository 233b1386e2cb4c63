/-
  The table of all cards.
-/
import Derived.Test.YtibmnofpoenonaaGreatDoorTab5
namespace Go.Proofs.YtibmnofpoenonaaGreatDoor
open Go Go.RowKit

theorem results2_Card {fn : Func} {p q : Tmp} (h : fn.results = #[.cell p 92, .tmp q]) (tmps : Array Value) (w : World) (b : Nat) (hp : tmps.getD p undef = .pointer (some ⟨b, 0, none⟩)) (h1 : (w.blk b).size = 13) :
    (results fn tmps).run Tryz.prog w = .ok (.tuple #[.agg (sub (w.blk b) 0 13), tmps.getD q undef]) w := by
  unfold results
  rw [h]
  have e1 := loadVar_Card w b h1
  have hp' : tmps[p]?.getD undef = .pointer (some ⟨b, 0, none⟩) := by simpa using hp
  simp [asAddr, hp', e1]
@[go_sem] theorem index_ab54 (w : World) (cs : Array Value) (q : IntKind) (i : Int) (h0 : 0 ≤ i) (h1 : i < 5) : (Instr.index 181 (.agg cs) (.int q i)).run Tryz.prog w = .ok (.agg (sub cs (i.toNat * 56) 56)) w :=
  run_index_part w 181 180 5 56 Tryz.underlying181 (fun w => by kernel_rfl) (fun w => by kernel_rfl) cs q i h0 h1
@[go_sem] theorem index_ab4 (w : World) (cs : Array Value) (q : IntKind) (i : Int) (h0 : 0 ≤ i) (h1 : i < 4) : (Instr.index 180 (.agg cs) (.int q i)).run Tryz.prog w = .ok (.agg (sub cs (i.toNat * 14) 14)) w :=
  run_index_part w 180 136 4 14 Tryz.underlying180 (fun w => by kernel_rfl) (fun w => by kernel_rfl) cs q i h0 h1
@[go_sem] theorem index_ab56 (w : World) (cs : Array Value) (q : IntKind) (i : Int) (h0 : 0 ≤ i) (h1 : i < 5) : (Instr.index 178 (.agg cs) (.int q i)).run Tryz.prog w = .ok (.agg (sub cs (i.toNat * 84) 84)) w :=
  run_index_part w 178 177 5 84 Tryz.underlying178 (fun w => by kernel_rfl) (fun w => by kernel_rfl) cs q i h0 h1
@[go_sem] theorem index_ab6 (w : World) (cs : Array Value) (q : IntKind) (i : Int) (h0 : 0 ≤ i) (h1 : i < 6) : (Instr.index 177 (.agg cs) (.int q i)).run Tryz.prog w = .ok (.agg (sub cs (i.toNat * 14) 14)) w :=
  run_index_part w 177 136 6 14 Tryz.underlying177 (fun w => by kernel_rfl) (fun w => by kernel_rfl) cs q i h0 h1
@[go_sem] theorem run_build_spell (w : World) (a : Int) (f : Bool) (c0 c1 c2 c3 c4 c5 : Int) (k o n c : Nat) : (bdRow 92 #[(0, .int .i64 2), (1, .int .i64 a), (2, .bool f), (3, .agg (cellsOf [c0, c1, c2, c3, c4, c5])), (7, .slice (some ⟨k, o, none⟩) n c)]).run Tryz.prog w = .ok (.value (.agg (CdV.arr ⟨2, a, f, c0, c1, c2, c3, c4, c5, 0, 0, 0, .mk k o n c⟩))) w := by kernel_rfl
@[go_sem] theorem run_build_relic (w : World) (a : Int) (c0 c1 c2 c3 c4 c5 : Int) (k o n c : Nat) : (bdRow 92 #[(0, .int .i64 3), (1, .int .i64 a), (3, .agg (cellsOf [c0, c1, c2, c3, c4, c5])), (7, .slice (some ⟨k, o, none⟩) n c)]).run Tryz.prog w = .ok (.value (.agg (CdV.arr ⟨3, a, false, c0, c1, c2, c3, c4, c5, 0, 0, 0, .mk k o n c⟩))) w := by kernel_rfl
@[go_sem] theorem run_build_token (w : World) (p t s : Int) : (bdRow 92 #[(0, .int .i64 1), (1, .int .i64 5), (4, .int .i64 p), (5, .int .i64 t), (6, .int .i64 s)]).run Tryz.prog w = .ok (.value (.agg (CdV.arr ⟨1, 5, false, 0, 0, 0, 0, 0, 0, p, t, s, .nil⟩))) w := by kernel_rfl
/-- Cards 112 to 119. -/
def tokenN (k : Nat) : CardN := ⟨1, (k : Int) / 2 + 1, (k : Int) / 2 + 1, (k : Int) % 2, []⟩
/-- Any card. -/
def cardN (n : Nat) : CardN :=
  if n < 10 then sourceN n else if n < 50 then beastN (n - 10) else if n < 80 then ⟨2, 0, 0, 0, [⟨0, 0, 0, 0, 0⟩]⟩
  else if n < 100 then ⟨3, 0, 0, 0, [relicN ((n - 80) % 5) ((n - 80) / 5)]⟩ else if n < 112 then specialN (n - 100) else tokenN (n - 112)
/-- What the table answers to a card's number. -/
def CardSaid (w w' : World) (r : Ending) (d : CardN) : Prop := ∃ c : CdV, r = .returned (.tuple #[.agg c.arr, .nilIface]) ∧ CardOk w' w.heap.size c d ∧ Grow w w'
set_option maxRecDepth 100000 in
set_option maxHeartbeats 2000000 in
theorem card_source (w : World) (n : Nat) (hn : n < 10) : Calls Tryz.prog 112 #[.int .i64 (n : Int)] w fun r w' => CardSaid w w' r (sourceN n) := by
  go_enter Tryz.func112, Tryz.ntmps112
  go_wp2_with (go_at_call 134; refine (source_any _ n hn).mono ?_; rintro e' w' ⟨c, rfl, hc, nx, rfl⟩; have HC := Lib.hid hc; clear hc)
  refine bodyPost_ret (results2_Card rfl _ _ _ rfl ?_) rfl ?_
  · go_simp
  · exact ⟨c, by go_simp, HC.out.to (b := w.heap.size) (by repeat (first | exact Grow.refl _ | refine Grow.andr ?_ | refine Grow.plus ?_ _ | refine Grow.alloc ?_ _ | refine Grow.drew ?_ | refine Grow.drewN ?_ _)) (Off.plus (Off.base w _ _ _ rfl) _) (by first | (go_simp; done) | (go_simp; omega) | (simp only [Sl.b]; go_simp; omega)) (by first | (go_simp; done) | (go_simp; omega) | (simp only [Sl.b]; go_simp; omega)) (by repeat (first | exact Grow.refl _ | refine Grow.andr ?_ | refine Grow.plus ?_ _ | refine Grow.alloc ?_ _ | refine Grow.drew ?_ | refine Grow.drewN ?_ _)), (by repeat (first | exact Grow.refl _ | refine Grow.andr ?_ | refine Grow.plus ?_ _ | refine Grow.alloc ?_ _ | refine Grow.drew ?_ | refine Grow.drewN ?_ _))⟩
set_option maxRecDepth 100000 in
set_option maxHeartbeats 2000000 in
theorem card_beast (w : World) (n : Nat) (hn : n < 40) : Calls Tryz.prog 112 #[.int .i64 ((n : Int) + 10)] w fun r w' => CardSaid w w' r (beastN n) := by
  go_enter Tryz.func112, Tryz.ntmps112
  go_wp2_with (go_at_call 135; refine (beast_any _ n hn).mono ?_; rintro e' w' ⟨c, rfl, hc, nx, rfl⟩; have HC := Lib.hid hc; clear hc)
  refine bodyPost_ret (results2_Card rfl _ _ _ rfl ?_) rfl ?_
  · go_simp
  · exact ⟨c, by go_simp, HC.out.to (b := w.heap.size) (by repeat (first | exact Grow.refl _ | refine Grow.andr ?_ | refine Grow.plus ?_ _ | refine Grow.alloc ?_ _ | refine Grow.drew ?_ | refine Grow.drewN ?_ _)) (Off.plus (Off.base w _ _ _ rfl) _) (by first | (go_simp; done) | (go_simp; omega) | (simp only [Sl.b]; go_simp; omega)) (by first | (go_simp; done) | (go_simp; omega) | (simp only [Sl.b]; go_simp; omega)) (by repeat (first | exact Grow.refl _ | refine Grow.andr ?_ | refine Grow.plus ?_ _ | refine Grow.alloc ?_ _ | refine Grow.drew ?_ | refine Grow.drewN ?_ _)), (by repeat (first | exact Grow.refl _ | refine Grow.andr ?_ | refine Grow.plus ?_ _ | refine Grow.alloc ?_ _ | refine Grow.drew ?_ | refine Grow.drewN ?_ _))⟩
set_option maxRecDepth 100000 in
set_option maxHeartbeats 2000000 in
theorem card_special (w : World) (n : Nat) (hn : n < 12) : Calls Tryz.prog 112 #[.int .i64 ((n : Int) + 100)] w fun r w' => CardSaid w w' r (specialN n) := by
  go_enter Tryz.func112, Tryz.ntmps112
  go_wp2_with (go_at_call 139; refine (special_any _ n hn).mono ?_; rintro e' w' ⟨c, rfl, hc, nx, rfl⟩; have HC := Lib.hid hc; clear hc)
  refine bodyPost_ret (results2_Card rfl _ _ _ rfl ?_) rfl ?_
  · go_simp
  · exact ⟨c, by go_simp, HC.out.to (b := w.heap.size) (by repeat (first | exact Grow.refl _ | refine Grow.andr ?_ | refine Grow.plus ?_ _ | refine Grow.alloc ?_ _ | refine Grow.drew ?_ | refine Grow.drewN ?_ _)) (Off.plus (Off.base w _ _ _ rfl) _) (by first | (go_simp; done) | (go_simp; omega) | (simp only [Sl.b]; go_simp; omega)) (by first | (go_simp; done) | (go_simp; omega) | (simp only [Sl.b]; go_simp; omega)) (by repeat (first | exact Grow.refl _ | refine Grow.andr ?_ | refine Grow.plus ?_ _ | refine Grow.alloc ?_ _ | refine Grow.drew ?_ | refine Grow.drewN ?_ _)), (by repeat (first | exact Grow.refl _ | refine Grow.andr ?_ | refine Grow.plus ?_ _ | refine Grow.alloc ?_ _ | refine Grow.drew ?_ | refine Grow.drewN ?_ _))⟩
set_option maxRecDepth 100000 in
set_option maxHeartbeats 2000000 in
theorem card_token (w : World) (n : Nat) (hn : n < 8) : Calls Tryz.prog 112 #[.int .i64 ((n : Int) + 112)] w fun r w' => CardSaid w w' r (tokenN n) := by
  go_enter Tryz.func112, Tryz.ntmps112
  go_wp2_with fail
  refine bodyPost_ret (results2_Card rfl _ _ _ rfl ?_) rfl ?_
  · go_simp
  · refine ⟨_, (by go_simp; rfl), ⟨rfl, rfl, rfl, rfl, [], RowsV.nil _ _, .inl rfl, .nil⟩, (by repeat (first | exact Grow.refl _ | refine Grow.andr ?_ | refine Grow.plus ?_ _ | refine Grow.alloc ?_ _ | refine Grow.drew ?_ | refine Grow.drewN ?_ _))⟩
set_option maxRecDepth 100000 in
set_option maxHeartbeats 2000000 in
theorem card_spell (w : World) (n : Nat) (hn : n < 30) : Calls Tryz.prog 112 #[.int .i64 ((n : Int) + 50)] w fun r w' => CardSaid w w' r ⟨2, 0, 0, 0, [⟨0, 0, 0, 0, 0⟩]⟩ := by
  have d1 : 0 ≤ (n : Int) % 5 ∧ (n : Int) % 5 < 5 := by omega
  have d2 : 0 ≤ (n : Int) / 5 ∧ (n : Int) / 5 < 6 := by omega
  go_enter Tryz.func112, Tryz.ntmps112
  go_wp2_with (first | (go_at_call 136; refine (cost_any _ _ _ _ (by omega) (by omega)).mono ?_; rintro e' w' ⟨d0, d1, d2, d3, d4, d5, rfl, nx, rfl⟩) | (go_at_call 137; refine (spells_any _).mono ?_; rintro e' w' ⟨x, rfl, hx, nx, rfl⟩; obtain ⟨a, ha, ha0⟩ := hx (n % 5) (n / 5) (by omega) (by omega); have HX := Lib.hid ha0; clear hx ha0))
  refine bodyPost_ret (results2_Card rfl _ _ _ rfl ?_) rfl ?_
  · go_simp
  · refine ⟨_, (by go_simp; rfl), ⟨rfl, rfl, rfl, rfl, ?_⟩, (by repeat (first | exact Grow.refl _ | refine Grow.andr ?_ | refine Grow.plus ?_ _ | refine Grow.alloc ?_ _ | refine Grow.drew ?_ | refine Grow.drewN ?_ _))⟩
    exact ⟨[a], RowsV.one (x := AbV.arr a) (by go_simp) (by go_simp) (by go_simp), .inr (by first | (go_simp; done) | (go_simp; omega) | (simp only [Sl.b]; go_simp; omega)), .cons (.of HX.out (by decide)) .nil⟩
set_option maxRecDepth 100000 in
set_option maxHeartbeats 2000000 in
theorem card_relic (w : World) (n : Nat) (hn : n < 20) : Calls Tryz.prog 112 #[.int .i64 ((n : Int) + 80)] w fun r w' => CardSaid w w' r ⟨3, 0, 0, 0, [relicN (n % 5) (n / 5)]⟩ := by
  have d1 : 0 ≤ (n : Int) % 5 ∧ (n : Int) % 5 < 5 := by omega
  have d2 : 0 ≤ (n : Int) / 5 ∧ (n : Int) / 5 < 4 := by omega
  go_enter Tryz.func112, Tryz.ntmps112
  go_wp2_with (first | (go_at_call 136; refine (cost_any _ _ _ _ (by omega) (by omega)).mono ?_; rintro e' w' ⟨d0, d1, d2, d3, d4, d5, rfl, nx, rfl⟩) | (go_at_call 138; refine (relics_any _).mono ?_; rintro e' w' ⟨x, rfl, hx, nx, rfl⟩; obtain ⟨a, ha, ha0⟩ := hx (n % 5) (n / 5) (by omega) (by omega); (try simp only [drew_plus] at ha0); (try simp only [plus_plus] at ha0); have HX := Lib.hid ha0; clear hx ha0))
  refine bodyPost_ret (results2_Card rfl _ _ _ rfl ?_) rfl ?_
  · go_simp
  · rename_i n1
    refine ⟨_, (by go_simp; rfl), ⟨rfl, rfl, rfl, rfl, ?_⟩, (by repeat (first | exact Grow.refl _ | refine Grow.andr ?_ | refine Grow.plus ?_ _ | refine Grow.alloc ?_ _ | refine Grow.drew ?_ | refine Grow.drewN ?_ _))⟩
    refine ⟨[a], RowsV.one (x := AbV.arr a) (by go_simp) (by go_simp) (by go_simp), .inr (by first | (go_simp; done) | (go_simp; omega) | (simp only [Sl.b]; go_simp; omega)), .cons ?_ .nil⟩
    exact ((HX.out.off (b := w.heap.size) (Off.plus (Off.base w _ _ _ rfl) _) (by first | (go_simp; done) | (go_simp; omega) | (simp only [Sl.b]; go_simp; omega))).low (by first | (go_simp; done) | (go_simp; omega) | (simp only [Sl.b]; go_simp; omega))).grow (by repeat (first | exact Grow.refl _ | refine Grow.andr ?_ | refine Grow.plus ?_ _ | refine Grow.alloc ?_ _ | refine Grow.drew ?_ | refine Grow.drewN ?_ _))
theorem card_any (w : World) (n : Nat) (hn : n < 120) : Calls Tryz.prog 112 #[.int .i64 (n : Int)] w fun r w' => CardSaid w w' r (cardN n) := by
  unfold cardN
  split
  · exact card_source w n (by assumption)
  · split
    · obtain ⟨m, rfl⟩ : ∃ m, n = m + 10 := ⟨n - 10, by omega⟩
      have h := card_beast w m (by omega)
      rw [Nat.add_sub_cancel]; exact h
    · split
      · obtain ⟨m, rfl⟩ : ∃ m, n = m + 50 := ⟨n - 50, by omega⟩
        exact card_spell w m (by omega)
      · split
        · obtain ⟨m, rfl⟩ : ∃ m, n = m + 80 := ⟨n - 80, by omega⟩
          have h := card_relic w m (by omega)
          rw [Nat.add_sub_cancel]; exact h
        · split
          · obtain ⟨m, rfl⟩ : ∃ m, n = m + 100 := ⟨n - 100, by omega⟩
            have h := card_special w m (by omega)
            rw [Nat.add_sub_cancel]; exact h
          · obtain ⟨m, rfl⟩ : ∃ m, n = m + 112 := ⟨n - 112, by omega⟩
            have h := card_token w m (by omega)
            rw [Nat.add_sub_cancel]; exact h
end Go.Proofs.YtibmnofpoenonaaGreatDoor
