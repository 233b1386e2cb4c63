/-
  The program's hits, done: the walk of strike.
-/
import Derived.Test.YtnjdkkgkaafdbaaGreatDoorMCb1
import Derived.Test.YtnjdkkgkaafdbaaGreatDoorMEmPl
import Derived.Test.YtnjdkkgkaafdbaaGreatDoorMAll
namespace Go.Proofs.YtnjdkkgkaafdbaaGreatDoor
open Go Go.RowKit Go.Shelf

/-- A hit, done. -/
def Em.strike (E : Em) (S : St) (d : Nat) (t n : Int) : Em :=
  let E1 := if t < 0 then E.life (-1 - t) (-n)
    else E.setObj (t - 1) 6 (min (gt (rowAt E.now.objs (t - 1).toNat) 6 + (if hasB S d 16 = true then n + 1000 else n)) 1073741824)
  if hasB S d 32 = true then E1.life (gt (rowAt S.objs d) 2) n else E1
/-- A hit of a right state. -/
structure HitIn (S : St) (d : Nat) (t n : Int) : Prop where
  from' : creatureB S d = true
  pos : 0 < n
  max : n ≤ 1099511627776
  at' : (t = foeN S) ∨ ∃ e : Nat, t = (e : Int) + 1 ∧ creatureB S e = true
theorem Fi.strike {S : St} {m : Nat} {E : Em} (hS : Right S) (h : Fi S m E) (hm : m + 2 ≤ 65536) {d : Nat} {t n : Int} (H : HitIn S d t n) : Fi S (m + 2) (E.strike S d t n) := by
  have hact := hS.active
  have hd : d < S.objs.length := by have := (creatureB_in H.from').2.1; omega
  have hctl : 0 ≤ gt (rowAt S.objs d) 2 ∧ gt (rowAt S.objs d) 2 ≤ 1 := hS.num hd (f := 2) (by decide)
  unfold Em.strike
  have h1 : Fi S (m + 1) (if t < 0 then E.life (-1 - t) (-n) else E.setObj (t - 1) 6 (min (gt (rowAt E.now.objs (t - 1).toNat) 6 + (if hasB S d 16 = true then n + 1000 else n)) 1073741824)) := by
    rcases H.at' with rfl | ⟨e, rfl, he⟩
    · have hf : foeN S < 0 := by unfold foeN; omega
      rw [if_pos hf]
      obtain ⟨p, hp⟩ := Int.eq_ofNat_of_zero_le (show 0 ≤ -1 - foeN S by unfold foeN; omega)
      rw [hp]
      exact (h.life (by omega) p (by unfold foeN at hp; omega) _).1
    · have he2 := creatureB_in he
      have hel : e < S.objs.length := by omega
      rw [if_neg (by omega), show (e : Int) + 1 - 1 = (e : Int) by omega, Int.toNat_natCast]
      have hdm : 0 ≤ gt (rowAt E.now.objs e) 6 ∧ gt (rowAt E.now.objs e) 6 ≤ 1073741824 := h.right.num (by rw [h.len]; exact hel) (f := 6) (by decide)
      have h0 := H.pos
      have hv : 0 ≤ (if hasB S d 16 = true then n + 1000 else n) := by split <;> omega
      have e1 : gt (objBounds S.objs.length) (6 * 2) = 0 := rfl
      have e2 : gt (objBounds S.objs.length) (6 * 2 + 1) = 1073741824 := rfl
      exact (h.set (by omega) e 6 _ hel (by have := he2.2.2.1; rwa [Int.toNat_natCast] at this) (by omega) (by rw [e1, e2]; omega) (by omega)).1
  dsimp only
  by_cases h32 : hasB S d 32 = true
  · rw [if_pos h32]
    obtain ⟨p, hp⟩ := Int.eq_ofNat_of_zero_le hctl.1
    rw [hp]
    exact (h1.life (by omega) p (by omega) n).1
  · rw [if_neg h32]
    exact h1.mono (by omega)
theorem tPlayer_yes (w : World) (t : Int) (ht : t = -1 ∨ t = -2) : Calls Tryz.prog 84 #[.int .i64 t] w fun e w' => e = .returned (.tuple #[.int .i64 (-1 - t), .bool true]) ∧ Grow w w' := by
  rcases ht with rfl | rfl
  all_goals
    go_enter Tryz.func84, Tryz.ntmps84
    go_wp2_with fail
    go_ret2
    exact ⟨rfl, grI⟩
theorem tPlayer_no (w : World) (t : Int) (ht : 0 < t) : Calls Tryz.prog 84 #[.int .i64 t] w fun e w' => e = .returned (.tuple #[.int .i64 0, .bool false]) ∧ Grow w w' := by
  have h1 : (t != -1) = true := by simp; omega
  have h2 : (t != -2) = true := by simp; omega
  clear ht
  go_enter Tryz.func84, Tryz.ntmps84
  go_wp2_with fail
  go_ret2
  exact ⟨rfl, grI⟩
theorem tObject_yes (w : World) (t : Int) (ht : 0 < t) (hb : t ≤ 1048577) : Calls Tryz.prog 86 #[.int .i64 t] w fun e w' => e = .returned (.tuple #[.int .i64 (t - 1), .bool true]) ∧ Grow w w' := by
  have h1 : (t ≤ 0) = False := by simp; omega
  have h2 : wrap64 (t - 1) = t - 1 := by unfold wrap64; omega
  clear ht hb
  go_enter Tryz.func86, Tryz.ntmps86
  go_wp2_with fail
  go_ret2
  exact ⟨by simp [h2], grI⟩
/-- A right state in memory that no turn of the emitter touches. -/
structure Side (w : World) (own : Nat → Prop) (S : St) (V : SV) : Prop where
  rs : RS S V w
  ap : ∀ k, V.uses k → ¬ own k ∧ k < w.heap.size
  vars : ∀ k, (k = 0 ∨ k = 1 ∨ k = 2) → ¬ own k
theorem Side.turn {w w' : World} {own own' : Nat → Prop} {S : St} {V : SV} (h : Side w own S V) (k : Kept own w w') (o : ∀ j, own' j → own j ∨ w.heap.size ≤ j) : Side w' own' S V := by
  obtain ⟨s1, s2, s3⟩ := h.rs.glob.size
  have hs := k.size
  refine ⟨⟨h.rs.rep.kept k (fun j hj => (h.ap j hj).1), h.rs.right, h.rs.small, ⟨⟨by omega, by omega, by omega⟩, by rw [k.blk _ s1 (h.vars _ (.inl rfl)), h.rs.glob.resting], by rw [k.blk _ s2 (h.vars _ (.inr (.inl rfl))), h.rs.glob.flag], by rw [k.blk _ s3 (h.vars _ (.inr (.inr rfl))), h.rs.glob.any]⟩⟩, fun j hj => ⟨fun h2 => ?_, by have := (h.ap j hj).2; omega⟩, fun j hj h2 => ?_⟩
  · rcases o j h2 with h3 | h3
    · exact (h.ap j hj).1 h3
    · have := (h.ap j hj).2; omega
  · rcases o j h2 with h3 | h3
    · exact h.vars j hj h3
    · rcases hj with rfl | rfl | rfl <;> omega
theorem Side.grow {w w' : World} {own : Nat → Prop} {S : St} {V : SV} (h : Side w own S V) (g : Grow w w') : Side w' own S V := h.turn (g.kept own) (fun _ h => .inl h)
@[go_sem ↓] theorem load_HitC (ρ : Operand → Value) (dst : Option Tmp) (x : Operand) (ty : TypeId) (pos : String) (after : Array Edge) (guard : Option (Nat × Bool)) :
    execOp ρ { dst, op := .load 40 x, type := ty, pos, after, guard } = ldRow 40 (ρ x) := rfl
@[go_sem ↓] theorem store_HitC (ρ : Operand → Value) (dst : Option Tmp) (x y : Operand) (ty : TypeId) (pos : String) (after : Array Edge) (guard : Option (Nat × Bool)) :
    execOp ρ { dst, op := .store 40 x y, type := ty, pos, after, guard } = stRow 40 (ρ x) (ρ y) := rfl
@[go_sem] theorem run_load_HitC (w : World) (b o : Nat) (h : o + 3 ≤ (w.blk b).size) : (ldRow 40 (.pointer (some ⟨b, o, none⟩))).run Tryz.prog w = .ok (.value (.agg (sub (w.blk b) o 3))) w :=
  run_ldSub w b o 40 3 (by kernel_rfl) (by kernel_rfl) h (by omega)
@[go_sem] theorem run_store_HitC (w : World) (b : Nat) (cs : Array Value) (h : (w.blk b).size = 3) (hc : cs.size = 3) (h1 : oneCells cs = true) (hf : w.free b = true) : (stRow 40 (.pointer (some ⟨b, 0, none⟩)) (.agg cs)).run Tryz.prog w = .ok .skip (w.setRow b cs) :=
  run_stRow w b 40 3 _ (by kernel_rfl) h hc (by omega) hf h1
set_option maxRecDepth 100000 in
set_option maxHeartbeats 8000000 in
/-- What follows of a hit: what the creature drains. -/
theorem strike_foe (w : World) (b : Nat) (own : Nat → Prop) (E : Em) (R : Emt w b own E) (S : St) (V : SV) (D : Side w own S V) (m : Nat) (F : Fi S m E) (hm : m + 2 ≤ 65536) (d : Nat) (n : Int) (H : HitIn S d (foeN S) n) :
    Calls Tryz.prog 48 #[.pointer (some ⟨b, 0, none⟩), .agg (stA V S.num), .agg (cellsOf [(d : Int), foeN S, n])] w fun r w' => r = .returned (.tuple #[]) ∧ EPost w b own (E.strike S d (foeN S) n) w' := by
  have hact := D.rs.right.active
  have hd : d < S.objs.length := by have := (creatureB_in H.from').2.1; omega
  have hctl : 0 ≤ gt (rowAt S.objs d) 2 ∧ gt (rowAt S.objs d) 2 ≤ 1 := D.rs.right.num hd (f := 2) (by decide)
  have hf : foeN S < 0 := by unfold foeN; omega
  obtain ⟨p, hp⟩ := Int.eq_ofNat_of_zero_le (show 0 ≤ -1 - foeN S by unfold foeN; omega)
  have hp2 : p < 2 := by unfold foeN at hp; omega
  have HPl := Lib.hid (fun W => tPlayer_yes W (foeN S) (by unfold foeN; omega))
  rw [hp] at HPl
  have HLi := Lib.hid (fun W (g : Grow w W) => elife_good W b own E (R.grow g) F.err 65536 (F.ok (by omega)) (by omega) p hp2 (F.right.lifeIn p hp2) (-n))
  have HS1 : Hid (E.strike S d (foeN S) n = if hasB S d 32 = true then (E.life p (-n)).life (gt (rowAt S.objs d) 2) n else E.life p (-n)) := by
    rw [Hid, Em.strike, if_pos hf, hp]
  have hF1 := (F.life (by omega) p hp2 (-n)).1
  have HF1 := Lib.hid hF1
  have HD := Lib.hid D
  have HR := Lib.hid R
  have hown := R.lt
  have HOL := Lib.hid hown
  have hneg : wrap64 (-n) = -n := by have := H.pos; have := H.max; unfold wrap64; omega
  have hsw : (cellsOf [(d : Int), foeN S, n]).size = 3 := rfl
  have g0 : gt [(d : Int), foeN S, n] 0 = d := rfl
  have g1 : gt [(d : Int), foeN S, n] 1 = foeN S := rfl
  have g2 : gt [(d : Int), foeN S, n] 2 = n := rfl
  clear hact hf D R F hown hF1
  go_enter Tryz.func48, Tryz.ntmps48
  go_wp2_with (go_at_call 84; refine (HPl.out _).mono ?_; rintro e' w' ⟨rfl, nx, rfl⟩)
  refine (HLi.out _ grI).mono ?_
  rintro e' w3 ⟨rfl, own3, R3, K3, O3⟩
  have hwl := K3.size
  simp only [plus_size, alloc_size'] at hwl
  have hg0 : Grow w (((w.alloc (.cells (stA V S.num) 29)).alloc (.cells (cellsOf [(d : Int), foeN S, n]) 40)).plus nx) := grI
  have hno : ∀ q, w.heap.size ≤ q → ¬ own q := fun q hq h => by have := HOL.out q h; omega
  have hq0 : w3.blk w.heap.size = stA V S.num := by rw [K3.blk _ (by go_simp) (hno _ (Nat.le_refl _))]; go_simp
  have hq1 : w3.blk (w.heap.size + 1) = cellsOf [(d : Int), foeN S, n] := by rw [K3.blk _ (by go_simp) (hno _ (by omega))]; go_simp
  have hf1 : w3.free (w.heap.size + 1) = true := by rw [K3.free _ (by go_simp) (hno _ (by omega))]; go_simp
  have hc1 := cell_of_blk hf1 hq1
  have hb0 : w.heap.size < w3.heap.size := by omega
  have hb1 : w.heap.size + 1 < w3.heap.size := by omega
  have D3 : Side w3 own3 S V := (HD.out.grow hg0).turn K3 (fun j hj => (O3 j hj).imp id And.left)
  have HK3 := Lib.hid (show Kept own w w3 from (hg0.kept own).trans K3 (fun _ _ h => h))
  have HO3 := Lib.hid (show ∀ j, own3 j → own j ∨ (w.heap.size ≤ j ∧ j < w3.heap.size) from fun j hj => (O3 j hj).imp id (fun h => ⟨Nat.le_trans hg0.size h.1, h.2⟩))
  have HR3 := Lib.hid R3
  have HHs := Lib.hid (fun W (g : Grow w3 W) => has_word S V W (D3.rs.grow g) d 32 (by decide) (by decide))
  have HFd := Lib.hid (fun W (g : Grow w3 W) => field_any S V W (D3.rs.grow g).rep d 2 hd (by decide))
  have HOL3 := Lib.hid (show ∀ q, own3 q → q ≠ w.heap.size ∧ q ≠ w.heap.size + 1 from fun q hq => by
    rcases O3 q hq with h | h
    · have := HOL.out q h; omega
    · have := h.1; simp only [plus_size, alloc_size'] at this; omega)
  obtain ⟨c, hc⟩ := Int.eq_ofNat_of_zero_le hctl.1
  rw [hc] at HS1 HFd
  have HL3 := Lib.hid (fun W (g : Grow w3 W) => elife_good W b own3 _ (HR3.out.grow g) HF1.out.err 65536 (HF1.out.ok (by omega)) (by omega) c (by omega) (HF1.out.right.lifeIn c (by omega)) n)
  clear D3 K3 O3 R3 hno hctl hc H hg0
  cases hD : hasB S d 32 with
  | true =>
    rw [hD, if_pos rfl] at HS1
    rw [hD] at HHs
    go_wp2_with (go_at_call 31; refine (HHs.out _ grI).mono ?_; rintro e' w' ⟨rfl, nx, rfl⟩)
    go_region_held3 (fun W => W.blk w.heap.size = stA V S.num ∧ W.blk (w.heap.size + 1) = cellsOf [(d : Int), foeN S, n] ∧ W.cell? ⟨w.heap.size + 1, 0, none⟩ = some (I d) ∧ W.cell? ⟨w.heap.size + 1, 2, none⟩ = some (I n)) (simp [go_sem, *]) (first | (go_at_call 41; refine (HFd.out _ grI).mono ?_; rintro e' w' ⟨rfl, nf, rfl⟩) | (go_at_call 85; refine (HL3.out _ grI).mono ?_; rintro e' w4 ⟨rfl, own4, R4, K4, O4⟩; have z0 : w4.blk w.heap.size = stA V S.num := (by rw [K4.blk _ (by first | (go_simp; done) | (go_simp; omega) | (simp only [Sl.b]; go_simp; omega)) (fun h => (HOL3.out _ h).1 rfl)]; go_simp); have z1 : w4.blk (w.heap.size + 1) = cellsOf [(d : Int), foeN S, n] := (by rw [K4.blk _ (by first | (go_simp; done) | (go_simp; omega) | (simp only [Sl.b]; go_simp; omega)) (fun h => (HOL3.out _ h).2 rfl)]; go_simp); have z2 : w4.cell? ⟨w.heap.size + 1, 0, none⟩ = some (I d) := (by rw [K4.cell _ _ (by first | (go_simp; done) | (go_simp; omega) | (simp only [Sl.b]; go_simp; omega)) (fun h => (HOL3.out _ h).2 rfl)]; go_simp); have z3 : w4.cell? ⟨w.heap.size + 1, 2, none⟩ = some (I n) := (by rw [K4.cell _ _ (by first | (go_simp; done) | (go_simp; omega) | (simp only [Sl.b]; go_simp; omega)) (fun h => (HOL3.out _ h).2 rfl)]; go_simp); have HE4 : Hid (EPost _ b own3 _ w4) := ⟨own4, R4, K4, O4⟩; clear R4 K4 O4))
    all_goals
      go_wp2_with fail
      go_end0
      exact ⟨rfl, by rw [HS1.out]; exact EPost.then HK3.out HO3.out (EPost.low grI HE4.out)⟩
  | false =>
    rw [hD, if_neg (by simp)] at HS1
    rw [hD] at HHs
    go_wp2_with (go_at_call 31; refine (HHs.out _ grI).mono ?_; rintro e' w' ⟨rfl, nx, rfl⟩)
    go_end0
    exact ⟨rfl, by rw [HS1.out]; exact EPost.then HK3.out HO3.out (.of_grow HR3.out grI)⟩
@[go_sem] theorem field_State0 (w : World) (V : SV) (num : Nat → Int) : (Instr.field 29 (.agg (stA V num)) 0).run Tryz.prog w = .ok V.objs.val w := by
  obtain ⟨o, l⟩ := V
  cases o <;> kernel_rfl
theorem Grow.free {w w' : World} {b : Nat} (g : Grow w w') (hb : b < w.heap.size) : w'.free b = w.free b := by
  obtain ⟨x, rfl⟩ := g
  rw [free_plus, if_pos hb]
set_option maxRecDepth 100000 in
set_option maxHeartbeats 8000000 in
theorem strike_at (w : World) (b : Nat) (own : Nat → Prop) (E : Em) (R : Emt w b own E) (S : St) (V : SV) (D : Side w own S V) (m : Nat) (F : Fi S m E) (hm : m + 2 ≤ 65536) (d e : Nat) (n : Int) (H : HitIn S d ((e : Int) + 1) n) (he : creatureB S e = true) :
    Calls Tryz.prog 48 #[.pointer (some ⟨b, 0, none⟩), .agg (stA V S.num), .agg (cellsOf [(d : Int), (e : Int) + 1, n])] w fun r w' => r = .returned (.tuple #[]) ∧ EPost w b own (E.strike S d ((e : Int) + 1) n) w' := by
  have hd : d < S.objs.length := by have := (creatureB_in H.from').2.1; omega
  have he2 := creatureB_in he
  have hel : e < S.objs.length := by omega
  have hel2 : e < E.now.objs.length := by rw [F.len]; exact hel
  have hctl : 0 ≤ gt (rowAt S.objs d) 2 ∧ gt (rowAt S.objs d) 2 ≤ 1 := D.rs.right.num hd (f := 2) (by decide)
  have hdm : 0 ≤ gt (rowAt E.now.objs e) 6 ∧ gt (rowAt E.now.objs e) 6 ≤ 1073741824 := F.right.num hel2 (f := 6) (by decide)
  have h400 := D.rs.right.many
  have HPl := Lib.hid (fun W => tPlayer_no W ((e : Int) + 1) (by omega))
  have HOb := Lib.hid (fun W => tObject_yes W ((e : Int) + 1) (by omega) (by omega))
  rw [show (e : Int) + 1 - 1 = (e : Int) by omega] at HOb
  have HEr := Lib.hid (fun W (g : Grow w W) => by have := err_any W b own E (R.grow g); rw [F.err, errV_0] at this; exact this)
  have HH16 := Lib.hid (fun W (g : Grow w W) => has_word S V W (D.rs.grow g) d 16 (by decide) (by decide))
  have HSt := Lib.hid (fun W (g : Grow w W) => by have := estate_any W b own E (R.grow g) F.small; rw [show E.state = E.now from if_neg (by rw [F.err]; simp)] at this; exact this)
  have h0 := H.pos
  have hn := H.max
  have e1 : gt (objBounds S.objs.length) (6 * 2) = 0 := rfl
  have e2 : gt (objBounds S.objs.length) (6 * 2 + 1) = 1073741824 := rfl
  have h8 : gt (rowAt S.objs e) 3 = 8 := by have := he2.2.2.1; rwa [Int.toNat_natCast] at this
  have HSet := Lib.hid (fun W (g : Grow w W) v => esetObj_any W b own E (R.grow g) 65536 (F.ok (by omega)) (by omega) (e : Int) 6 v)
  have HFs := Lib.hid (fun v (hv : 0 ≤ v ∧ v ≤ 1073741824) => (F.set (by omega) e 6 v hel h8 (by omega) (by rw [e1, e2]; exact hv) (by omega)).1)
  have HS0 : Hid (∀ k, (if hasB S d 16 = true then n + 1000 else n) = k → E.strike S d ((e : Int) + 1) n = if hasB S d 32 = true then (E.setObj (e : Int) 6 (min (gt (rowAt E.now.objs e) 6 + k) 1073741824)).life (gt (rowAt S.objs d) 2) n else E.setObj (e : Int) 6 (min (gt (rowAt E.now.objs e) 6 + k) 1073741824)) := fun k hk => by
    unfold Em.strike
    dsimp only
    rw [if_neg (show ¬ ((e : Int) + 1 < 0) by omega), hk, show (e : Int) + 1 - 1 = (e : Int) by omega, Int.toNat_natCast]
  have HD := Lib.hid D
  have HR := Lib.hid R
  have hown := R.lt
  have HOL := Lib.hid hown
  have hsw : (cellsOf [(d : Int), (e : Int) + 1, n]).size = 3 := rfl
  have g0 : gt [(d : Int), (e : Int) + 1, n] 0 = d := rfl
  have g1 : gt [(d : Int), (e : Int) + 1, n] 1 = (e : Int) + 1 := rfl
  have g2 : gt [(d : Int), (e : Int) + 1, n] 2 = n := rfl
  have hei : (e : Int) < (E.now.objs.length : Int) := by omega
  clear D R F hown he he2 h8 e1 e2 H
  cases hB : hasB S d 16
  case' true =>
    rw [hB] at HH16 HS0
    have hS1 := HS0.out (n + 1000) (if_pos rfl)
    have hwn : wrap64 (n + 1000) = n + 1000 := by unfold wrap64; omega
    have hwd : wrap64 (gt (rowAt E.now.objs e) 6 + (n + 1000)) = gt (rowAt E.now.objs e) 6 + (n + 1000) := by unfold wrap64; omega
    have hF1 := HFs.out (min (gt (rowAt E.now.objs e) 6 + (n + 1000)) 1073741824) (by omega)
    have HSe := Lib.hid (fun W g => HSet.out W g (min (gt (rowAt E.now.objs e) 6 + (n + 1000)) 1073741824))
  case' false =>
    rw [hB] at HH16 HS0
    have hS1 := HS0.out n (if_neg (by simp))
    have hwn : True := trivial
    have hwd : wrap64 (gt (rowAt E.now.objs e) 6 + n) = gt (rowAt E.now.objs e) 6 + n := by unfold wrap64; omega
    have hF1 := HFs.out (min (gt (rowAt E.now.objs e) 6 + n) 1073741824) (by omega)
    have HSe := Lib.hid (fun W g => HSet.out W g (min (gt (rowAt E.now.objs e) 6 + n) 1073741824))
  all_goals
  have HS1 := Lib.hid hS1
  have HF1 := Lib.hid hF1
  clear hS1 hF1 HS0 HFs HSet hdm
  go_enter Tryz.func48, Tryz.ntmps48
  go_wp2_with (first | (go_at_call 84; refine (HPl.out _).mono ?_; rintro e' w' ⟨rfl, nx, rfl⟩) | (go_at_call 86; refine (HOb.out _).mono ?_; rintro e' w' ⟨rfl, nx, rfl⟩) | (go_at_call 29; refine (HEr.out _ grI).mono ?_; rintro e' w' ⟨rfl, nx, rfl⟩) | (go_at_call 31; refine (HH16.out _ grI).mono ?_; rintro e' w' ⟨rfl, nx, rfl⟩))
  refine (HSt.out _ grI).mono ?_
  rintro e' w2 ⟨V2, rfl, hR2, _, hG2⟩
  have HG2 : Hid (Grow w w2) := Grow.trans grI hG2
  have hs2 := hG2.size
  simp only [plus_size, alloc_size'] at hs2
  have hA0 : w2.blk w.heap.size = stA V S.num := by rw [blk_grow hG2 (by first | (go_simp; done) | (go_simp; omega) | (simp only [Sl.b]; go_simp; omega))]; go_simp
  have hA1 : w2.blk (w.heap.size + 1) = cellsOf [(d : Int), (e : Int) + 1, n] := by rw [blk_grow hG2 (by first | (go_simp; done) | (go_simp; omega) | (simp only [Sl.b]; go_simp; omega))]; go_simp
  have hA2 : w2.free (w.heap.size + 1) = true := by rw [hG2.free (by first | (go_simp; done) | (go_simp; omega) | (simp only [Sl.b]; go_simp; omega))]; go_simp
  have hz0 : w.heap.size < w2.heap.size := by omega
  have hz1 : w.heap.size + 1 < w2.heap.size := by omega
  have hN2 := hR2.objs.len
  obtain ⟨ob, _, _, _, oc⟩ := hR2.objs.at (by omega) e hel2
  have oc6 := oc 6 (by decide)
  clear hR2 hG2 oc
  generalize gt (rowAt E.now.objs e) 6 = dm at *
  go_wp2_with fail
  refine (HSe.out _ HG2.out).mono ?_
  rintro e' w3 ⟨rfl, own3, R3, K3, O3⟩
  have hwl := K3.size
  have hno : ∀ q, w.heap.size ≤ q → ¬ own q := fun q hq h => by have := HOL.out q h; omega
  have hs2 := HG2.out.size
  have hq0 : w3.blk w.heap.size = stA V S.num := by rw [K3.blk _ hz0 (hno _ (Nat.le_refl _))]; exact hA0
  have hq1 : w3.blk (w.heap.size + 1) = cellsOf [(d : Int), (e : Int) + 1, n] := by rw [K3.blk _ hz1 (hno _ (by omega))]; exact hA1
  have hf1 : w3.free (w.heap.size + 1) = true := by rw [K3.free _ hz1 (hno _ (by omega))]; exact hA2
  have hc1 := cell_of_blk hf1 hq1
  have hb0 : w.heap.size < w3.heap.size := by omega
  have hb1 : w.heap.size + 1 < w3.heap.size := by omega
  have hg0 := HG2.out
  have D3 : Side w3 own3 S V := (HD.out.grow hg0).turn K3 (fun j hj => (O3 j hj).imp id And.left)
  have HK3 := Lib.hid (show Kept own w w3 from (hg0.kept own).trans K3 (fun _ _ h => h))
  have HO3 := Lib.hid (show ∀ j, own3 j → own j ∨ (w.heap.size ≤ j ∧ j < w3.heap.size) from fun j hj => (O3 j hj).imp id (fun h => ⟨Nat.le_trans hg0.size h.1, h.2⟩))
  have HR3 := Lib.hid R3
  have HHs := Lib.hid (fun W (g : Grow w3 W) => has_word S V W (D3.rs.grow g) d 32 (by decide) (by decide))
  have HFd := Lib.hid (fun W (g : Grow w3 W) => field_any S V W (D3.rs.grow g).rep d 2 hd (by decide))
  have HOL3 := Lib.hid (show ∀ q, own3 q → q ≠ w.heap.size ∧ q ≠ w.heap.size + 1 from fun q hq => by
    rcases O3 q hq with h | h
    · have := HOL.out q h; omega
    · have := h.1; omega)
  obtain ⟨c, hc⟩ := Int.eq_ofNat_of_zero_le hctl.1
  rw [hc] at HS1 HFd
  have HL3 := Lib.hid (fun W (g : Grow w3 W) => elife_good W b own3 _ (HR3.out.grow g) HF1.out.err 65536 (HF1.out.ok (by omega)) (by omega) c (by omega) (HF1.out.right.lifeIn c (by omega)) n)
  clear D3 K3 O3 R3 hno hctl hc hg0
  cases hD : hasB S d 32 with
  | true =>
    rw [hD, if_pos rfl] at HS1
    rw [hD] at HHs
    go_wp2_with (go_at_call 31; refine (HHs.out _ grI).mono ?_; rintro e' w' ⟨rfl, nx, rfl⟩)
    go_region_held3 (fun W => W.blk w.heap.size = stA V S.num ∧ W.blk (w.heap.size + 1) = cellsOf [(d : Int), (e : Int) + 1, n] ∧ W.cell? ⟨w.heap.size + 1, 0, none⟩ = some (I d) ∧ W.cell? ⟨w.heap.size + 1, 2, none⟩ = some (I n)) (simp [go_sem, *]) (first | (go_at_call 41; refine (HFd.out _ grI).mono ?_; rintro e' w' ⟨rfl, nf, rfl⟩) | (go_at_call 85; refine (HL3.out _ grI).mono ?_; rintro e' w4 ⟨rfl, own4, R4, K4, O4⟩; have z0 : w4.blk w.heap.size = stA V S.num := (by rw [K4.blk _ (by first | (go_simp; done) | (go_simp; omega) | (simp only [Sl.b]; go_simp; omega)) (fun h => (HOL3.out _ h).1 rfl)]; go_simp); have z1 : w4.blk (w.heap.size + 1) = cellsOf [(d : Int), (e : Int) + 1, n] := (by rw [K4.blk _ (by first | (go_simp; done) | (go_simp; omega) | (simp only [Sl.b]; go_simp; omega)) (fun h => (HOL3.out _ h).2 rfl)]; go_simp); have z2 : w4.cell? ⟨w.heap.size + 1, 0, none⟩ = some (I d) := (by rw [K4.cell _ _ (by first | (go_simp; done) | (go_simp; omega) | (simp only [Sl.b]; go_simp; omega)) (fun h => (HOL3.out _ h).2 rfl)]; go_simp); have z3 : w4.cell? ⟨w.heap.size + 1, 2, none⟩ = some (I n) := (by rw [K4.cell _ _ (by first | (go_simp; done) | (go_simp; omega) | (simp only [Sl.b]; go_simp; omega)) (fun h => (HOL3.out _ h).2 rfl)]; go_simp); have HE4 : Hid (EPost _ b own3 _ w4) := ⟨own4, R4, K4, O4⟩; clear R4 K4 O4))
    all_goals
      go_wp2_with fail
      go_end0
      exact ⟨rfl, by rw [HS1.out]; exact EPost.then HK3.out HO3.out (EPost.low grI HE4.out)⟩
  | false =>
    rw [hD, if_neg (by simp)] at HS1
    rw [hD] at HHs
    go_wp2_with (go_at_call 31; refine (HHs.out _ grI).mono ?_; rintro e' w' ⟨rfl, nx, rfl⟩)
    go_end0
    exact ⟨rfl, by rw [HS1.out]; exact EPost.then HK3.out HO3.out (.of_grow HR3.out grI)⟩
end Go.Proofs.YtnjdkkgkaafdbaaGreatDoor
