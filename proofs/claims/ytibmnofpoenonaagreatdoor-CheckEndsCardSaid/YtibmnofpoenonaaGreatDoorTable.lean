/-
  The table of cards: what each card is, for whoever asks how strong creatures are.
-/
import Derived.Test.YtibmnofpoenonaaGreatDoorCard
namespace Go.Proofs.YtibmnofpoenonaaGreatDoor
open Go Go.RowKit

/-- An ability, as far as a lasting effect goes: when it counts; of a Static: its group, and what it does. -/
structure AbN where
  wh : Int
  grp : Int := 0
  op : Int := 0
  n : Int := 0
  m : Int := 0
/-- A card, as far as its creature's shape goes. -/
structure CardN where
  kind : Int
  pw : Int := 0
  tf : Int := 0
  says : Int := 0
  abs : List AbN := []
/-- An ability stands so in memory, in blocks from n on. -/
def AbOk (w : World) (n : Nat) (a : AbV) (d : AbN) : Prop :=
  a.wh = d.wh ∧ (d.wh = 5 → a.ef.n = d.grp ∧ n ≤ a.ef.subs.b ∧ ∃ who s, RowsV w a.ef.subs 5 [EfV.arr ⟨d.op, d.n, d.m, who, s⟩])
theorem AbOk.grow {w w' : World} {n : Nat} {a : AbV} {d : AbN} (h : AbOk w n a d) (g : Grow w w') : AbOk w' n a d :=
  ⟨h.1, fun h5 => by obtain ⟨h1, h0, who, s, h2⟩ := h.2 h5; exact ⟨h1, h0, who, s, h2.grow g⟩⟩
theorem AbOk.off {b : Nat} {w w' : World} {n : Nat} {a : AbV} {d : AbN} (h : AbOk w n a d) (ho : Off b w w') (hb : b < n) : AbOk w' n a d :=
  ⟨h.1, fun h5 => by obtain ⟨h1, h0, who, s, h2⟩ := h.2 h5; exact ⟨h1, h0, who, s, h2.off ho (by omega)⟩⟩
theorem AbOk.low {w : World} {m n : Nat} {a : AbV} {d : AbN} (h : AbOk w n a d) (hm : m ≤ n) : AbOk w m a d :=
  ⟨h.1, fun h5 => by obtain ⟨h1, h0, h2⟩ := h.2 h5; exact ⟨h1, by omega, h2⟩⟩
theorem AbOk.of {w : World} {n : Nat} {a : AbV} {d : AbN} (h : a.wh = d.wh) (h5 : d.wh ≠ 5) : AbOk w n a d := ⟨h, fun h' => absurd h' h5⟩
theorem AbOk.stat {w : World} {n : Nat} {a : AbV} {d : AbN} {who : Int} {s : Sl} (h : a.wh = d.wh) (hg : a.ef.n = d.grp) (hn : n ≤ a.ef.subs.b) (R : RowsV w a.ef.subs 5 [EfV.arr ⟨d.op, d.n, d.m, who, s⟩]) : AbOk w n a d := ⟨h, fun _ => ⟨hg, hn, who, s, R⟩⟩
inductive AbsOk (w : World) (n : Nat) : List AbV → List AbN → Prop
  | nil : AbsOk w n [] []
  | cons {a : AbV} {d : AbN} {l : List AbV} {m : List AbN} : AbOk w n a d → AbsOk w n l m → AbsOk w n (a :: l) (d :: m)
theorem AbsOk.grow {w w' : World} {n : Nat} {l : List AbV} {m : List AbN} (h : AbsOk w n l m) (g : Grow w w') : AbsOk w' n l m := by
  induction h with
  | nil => exact .nil
  | cons h _ ih => exact .cons (h.grow g) ih
theorem AbsOk.off {b : Nat} {w w' : World} {n : Nat} {l : List AbV} {m : List AbN} (h : AbsOk w n l m) (ho : Off b w w') (hb : b < n) : AbsOk w' n l m := by
  induction h with
  | nil => exact .nil
  | cons h _ ih => exact .cons (h.off ho hb) ih
theorem AbsOk.low {w : World} {k n : Nat} {l : List AbV} {m : List AbN} (h : AbsOk w n l m) (hm : k ≤ n) : AbsOk w k l m := by
  induction h with
  | nil => exact .nil
  | cons h _ ih => exact .cons (h.low hm) ih
/-- A card stands so in memory, in blocks from n on. -/
structure CardOk (w : World) (n : Nat) (c : CdV) (d : CardN) : Prop where
  kind : c.kind = d.kind
  pw : c.pw = d.pw
  tf : c.tf = d.tf
  says : c.says = d.says
  abs : ∃ l : List AbV, RowsV w c.abs 14 (l.map AbV.arr) ∧ (l = [] ∨ n ≤ c.abs.b) ∧ AbsOk w n l d.abs
theorem CardOk.grow {w w' : World} {n : Nat} {c : CdV} {d : CardN} (h : CardOk w n c d) (g : Grow w w') : CardOk w' n c d :=
  ⟨h.kind, h.pw, h.tf, h.says, by obtain ⟨l, h1, h0, h2⟩ := h.abs; exact ⟨l, h1.grow g, h0, h2.grow g⟩⟩
theorem CardOk.off {b : Nat} {w w' : World} {n : Nat} {c : CdV} {d : CardN} (h : CardOk w n c d) (ho : Off b w w') (hb : b < n) : CardOk w' n c d :=
  ⟨h.kind, h.pw, h.tf, h.says, by
    obtain ⟨l, h1, h0, h2⟩ := h.abs
    refine ⟨l, ?_, h0, h2.off ho hb⟩
    rcases h0 with rfl | h0
    · exact ⟨h1.len, h1.cap, h1.wid, fun i j x hx => by simp at hx⟩
    · exact h1.off ho (by omega)⟩
theorem CardOk.low {w : World} {m n : Nat} {c : CdV} {d : CardN} (h : CardOk w n c d) (hm : m ≤ n) : CardOk w m c d :=
  ⟨h.kind, h.pw, h.tf, h.says, by
    obtain ⟨l, h1, h0, h2⟩ := h.abs
    exact ⟨l, h1, h0.imp id (Nat.le_trans hm), h2.low hm⟩⟩
theorem RowsV.nil (w : World) (k : Nat) : RowsV w .nil k [] := ⟨rfl, Nat.le_refl _, fun x hx => by simp at hx, fun i j x hx => by simp at hx⟩

/-- The Statics among the relics. -/
def relicN (c k : Nat) : AbN :=
  if k = 0 then
    if c = 0 then ⟨5, 1, 10, 0, 2⟩ else if c = 1 then ⟨5, 1, 23, 1, 0⟩ else if c = 2 then ⟨5, 2, 10, -1, 0⟩ else if c = 3 then ⟨5, 1, 10, 1, 0⟩ else ⟨5, 1, 10, 1, 1⟩
  else if k = 1 then ⟨4, 0, 0, 0, 0⟩
  else if k = 2 then ⟨1, 0, 0, 0, 0⟩
  else if c = 0 then ⟨5, 0, 25, 1, 0⟩ else if c = 1 then ⟨1, 0, 0, 0, 0⟩ else if c = 2 then ⟨5, 2, 24, 1, 1⟩ else if c = 3 then ⟨3, 0, 0, 0, 0⟩ else ⟨2, 0, 0, 0, 0⟩
/-- Cards 0 to 9. -/
def sourceN (n : Nat) : CardN := if n < 5 then ⟨0, 0, 0, 0, [⟨6, 0, 0, 0, 0⟩]⟩ else ⟨0, 0, 0, 0, [⟨2, 0, 0, 0, 0⟩, ⟨6, 0, 0, 0, 0⟩]⟩

@[go_sem] theorem run_build_source (w : World) (a : Int) (k o n c : Nat) : (bdRow 92 #[(1, .int .i64 a), (7, .slice (some ⟨k, o, none⟩) n c)]).run Tryz.prog w = .ok (.value (.agg (CdV.arr ⟨0, a, false, 0, 0, 0, 0, 0, 0, 0, 0, 0, .mk k o n c⟩))) w := by kernel_rfl
set_option maxRecDepth 100000 in
theorem source_any (w : World) (n : Nat) (hn : n < 10) : Calls Tryz.prog 134 #[.int .i64 (n : Int)] w fun r w' => ∃ c : CdV, r = .returned (.agg c.arr) ∧ CardOk w' w.heap.size c (sourceN n) ∧ Grow w w' := by
  by_cases h : n < 5
  · have h' : (n : Int) < 5 := by omega
    go_enter Tryz.func134, Tryz.ntmps134
    go_wp2_with (go_at_call 144; refine (mana_any _ _ _).mono ?_; rintro e' w' ⟨rfl, nx, rfl⟩)
    refine bodyPost_ret (results_Card rfl _ _ _ rfl ?_) rfl ?_
    · go_simp
    · refine ⟨⟨0, n, false, 0, 0, 0, 0, 0, 0, 0, 0, 0, .mk (w.heap.size + 1 + nx.objs.size) 0 1 1⟩, by go_simp, ?_, (by repeat (first | exact Grow.refl _ | refine Grow.andr ?_ | refine Grow.plus ?_ _ | refine Grow.alloc ?_ _ | refine Grow.drew ?_ | refine Grow.drewN ?_ _))⟩
      rw [sourceN, if_pos h]
      exact ⟨rfl, rfl, rfl, rfl, _, RowsV.one (x := AbV.arr _) (by go_simp) (by go_simp; rfl) (by go_simp), .inr (by simp only [Sl.b]; omega), .cons (.of rfl (by decide)) .nil⟩
  · have h' : ¬ (n : Int) < 5 := by omega
    go_enter Tryz.func134, Tryz.ntmps134
    go_wp2_with (first | (go_at_call 144; refine (mana_any _ _ _).mono ?_; rintro e' w' ⟨rfl, nx, rfl⟩) | (go_at_call 146; refine (tdo_any _ _ _ _ _).mono ?_; rintro e' w' ⟨rfl, nx, rfl⟩) | (go_at_call 145; refine (when_any _ _ _).mono ?_; rintro e' w' ⟨rfl, nx, rfl⟩))
    rename_i n1 n2
    refine bodyPost_ret (results_Card rfl _ _ _ rfl ?_) rfl ?_
    · go_simp
    · refine ⟨⟨0, 5, false, 0, 0, 0, 0, 0, 0, 0, 0, 0, .mk (w.heap.size + 1 + ((n1.and n2).and nx).objs.size) 0 2 2⟩, by go_simp, ?_, (by repeat (first | exact Grow.refl _ | refine Grow.andr ?_ | refine Grow.plus ?_ _ | refine Grow.alloc ?_ _ | refine Grow.drew ?_ | refine Grow.drewN ?_ _))⟩
      rw [sourceN, if_neg h]
      exact ⟨rfl, rfl, rfl, rfl, [_, _], RowsV.two (x := AbV.arr _) (y := AbV.arr _) (by go_simp) (by go_simp; rfl) (by go_simp) (by go_simp), .inr (by simp only [Sl.b]; omega), .cons (.of rfl (by decide)) (.cons (.of rfl (by decide)) .nil)⟩
/-- Rows of cells, one behind the other. -/
def catV (l : List (Array Value)) : Array Value := l.foldr (· ++ ·) #[]
@[go_sem ↓] theorem build_ab4 (ρ : Operand → Value) (dst : Option Tmp) (parts : Array (Nat × Operand)) (ty : TypeId) (pos : String) (after : Array Edge) (guard : Option (Nat × Bool)) :
    execOp ρ { dst, op := .build 180 parts, type := ty, pos, after, guard } = bdRow 180 (parts.map fun (i, x) => (i, ρ x)) := rfl
@[go_sem ↓] theorem load_ab4 (ρ : Operand → Value) (dst : Option Tmp) (x : Operand) (ty : TypeId) (pos : String) (after : Array Edge) (guard : Option (Nat × Bool)) :
    execOp ρ { dst, op := .load 180 x, type := ty, pos, after, guard } = ldRow 180 (ρ x) := rfl
@[go_sem ↓] theorem store_ab4 (ρ : Operand → Value) (dst : Option Tmp) (x y : Operand) (ty : TypeId) (pos : String) (after : Array Edge) (guard : Option (Nat × Bool)) :
    execOp ρ { dst, op := .store 180 x y, type := ty, pos, after, guard } = stRow 180 (ρ x) (ρ y) := rfl
@[go_sem] theorem run_load_ab4 (w : World) (b o : Nat) (h : o + 56 ≤ (w.blk b).size) : (ldRow 180 (.pointer (some ⟨b, o, none⟩))).run Tryz.prog w = .ok (.value (.agg (sub (w.blk b) o 56))) w :=
  run_ldSub w b o 180 56 (by kernel_rfl) (by kernel_rfl) h (by omega)
@[go_sem] theorem run_store_ab4 (w : World) (b : Nat) (cs : Array Value) (h : (w.blk b).size = 56) (hc : cs.size = 56) (h1 : oneCells cs = true) (hf : w.free b = true) : (stRow 180 (.pointer (some ⟨b, 0, none⟩)) (.agg cs)).run Tryz.prog w = .ok .skip (w.setRow b cs) :=
  run_stRow w b 180 56 _ (by kernel_rfl) h hc (by omega) hf h1
theorem loadVar_ab4 (w : World) (b : Nat) (h : (w.blk b).size = 56) : (loadVar 180 ⟨b, 0, none⟩).run Tryz.prog w = .ok (.agg (sub (w.blk b) 0 56)) w := by
  have := run_load_ab4 w b 0 (by omega)
  unfold ldRow at this
  rw [Sem.run_bind] at this
  simp only [Instr.loadAt, Instr.sureAddr, Sem.run_bind, Sem.run_pure, Result.andThen_ok] at this
  cases hr : (loadVar 180 ⟨b, 0, none⟩).run Tryz.prog w with
  | ok v w' => rw [hr] at this; simp at this; rw [this.1, this.2]
  | halt x w' => rw [hr] at this; simp [Result.andThen] at this
theorem results_ab4 {fn : Func} {p : Tmp} (h : fn.results = #[.cell p 180]) (tmps : Array Value) (w : World) (b : Nat) (hp : tmps.getD p undef = .pointer (some ⟨b, 0, none⟩)) (h1 : (w.blk b).size = 56) :
    (results fn tmps).run Tryz.prog w = .ok (.agg (sub (w.blk b) 0 56)) w := by
  unfold results
  rw [h]
  have e1 := loadVar_ab4 w b h1
  have hp' : tmps[p]?.getD undef = .pointer (some ⟨b, 0, none⟩) := by simpa using hp
  simp [asAddr, hp', e1]
@[go_sem] theorem ab4_size (a b c d : AbV) : (catV [a.arr, b.arr, c.arr, d.arr]).size = 56 := by simp [catV, AbV.arr]
@[go_sem] theorem ab4_one (a b c d : AbV) : oneCells (catV [a.arr, b.arr, c.arr, d.arr]) = true := by
  have h1 := AbV.one a; have h2 := AbV.one b; have h3 := AbV.one c; have h4 := AbV.one d
  unfold oneCells at *
  simp [catV, h1, h2, h3, h4]
@[go_sem] theorem ab4_all (a b c d : AbV) : sub (catV [a.arr, b.arr, c.arr, d.arr]) 0 56 = catV [a.arr, b.arr, c.arr, d.arr] := by
  unfold sub; rw [Nat.zero_add, ← ab4_size a b c d, Array.extract_size]
theorem run_build_ab4 (w : World) (a b c d : AbV) : (bdRow 180 #[(0, .agg a.arr), (1, .agg b.arr), (2, .agg c.arr), (3, .agg d.arr)]).run Tryz.prog w = .ok (.value (.agg (catV [a.arr, b.arr, c.arr, d.arr]))) w := by
  obtain ⟨a0, a1, a2, a3, a4, a5, a6, a7, a8, ⟨a9, a10, a11, a12, s1⟩⟩ := a
  obtain ⟨b0, b1, b2, b3, b4, b5, b6, b7, b8, ⟨b9, b10, b11, b12, s2⟩⟩ := b
  obtain ⟨c0, c1, c2, c3, c4, c5, c6, c7, c8, ⟨c9, c10, c11, c12, s3⟩⟩ := c
  obtain ⟨d0, d1, d2, d3, d4, d5, d6, d7, d8, ⟨d9, d10, d11, d12, s4⟩⟩ := d
  cases s1 <;> cases s2 <;> cases s3 <;> cases s4 <;> kernel_rfl
attribute [go_sem] run_build_ab4
theorem drew_size' (w : World) : w.drew.heap.size = w.heap.size := rfl
/-- The relics of one colour stand so. -/
def Rel4 (w : World) (n : Nat) (r : Ending) (c : Nat) : Prop :=
  ∃ a0 a1 a2 a3 : AbV, r = .returned (.agg (catV [a0.arr, a1.arr, a2.arr, a3.arr])) ∧ AbOk w n a0 (relicN c 0) ∧ AbOk w n a1 (relicN c 1) ∧ AbOk w n a2 (relicN c 2) ∧ AbOk w n a3 (relicN c 3)
set_option maxRecDepth 100000 in
set_option maxHeartbeats 2000000 in
theorem whiteRelics_any (w : World) : Calls Tryz.prog 153 #[] w fun r w' => Rel4 w' w.heap.size r 0 ∧ Grow w w' := by
  go_enter Tryz.func153, Tryz.ntmps153
  go_wp2_with (go_at_call 136; refine (cost_any _ _ _ _ (by decide) (by decide)).mono ?_; rintro e' w' ⟨c0, c1, c2, c3, c4, c5, rfl, nx, rfl⟩)
  go_region_law (first | (refine step_wanted (by rfl) ?_; go_simp; go_at_call 164; refine (every_any _ _ _ _ _).mono ?_; rintro e' w' ⟨s1, rfl, ⟨hR, hb⟩, nx, rfl⟩; (try simp only [drew_plus] at hR); (try simp only [plus_plus] at hR); (try simp only [drew_plus, plus_plus] at hb); (try simp only [drew_size', plus_size, alloc_size'] at hb); have HR := Lib.hid (And.intro hR hb); clear hR hb) | (refine step_wanted (by rfl) ?_; go_simp; go_at_call 146; refine (tdo_any _ _ _ _ _).mono ?_; rintro e' w' ⟨rfl, nx, rfl⟩) | (refine step_wanted (by rfl) ?_; go_simp; go_at_call 145; refine (when_any _ _ _).mono ?_; rintro e' w' ⟨rfl, nx, rfl⟩) | (refine step_wanted (by rfl) ?_; go_simp; go_at_call 147; refine (active_any _ _ _ _ _ _ _ _ _ _).mono ?_; rintro e' w' ⟨rfl, nx, rfl⟩) | (refine step_wanted (by rfl) ?_; go_simp; go_at_call 136; refine (cost_any _ _ _ _ (by decide) (by decide)).mono ?_; rintro e' w' ⟨d0, d1, d2, d3, d4, d5, rfl, nx, rfl⟩))
  all_goals go_wp2_with fail
  all_goals refine bodyPost_ret (results_ab4 rfl _ _ _ rfl ?_) rfl ?_
  all_goals first | (go_simp; done) | skip
  all_goals
    rename Hid (RowsV _ _ _ [EfV.arr ⟨10, 0, 2, 2, Sl.nil⟩] ∧ _) => hA
    rename Hid (RowsV _ _ _ [EfV.arr ⟨25, 1, 0, 2, Sl.nil⟩] ∧ _) => hB
    obtain ⟨hA1, hA2⟩ := hA.out
    obtain ⟨hB1, hB2⟩ := hB.out
    have hA3 := (Nat.lt_of_lt_of_le (show w.heap.size < _ by simp only [Nat.add_assoc]; exact Nat.lt_add_of_pos_right (by omega)) hA2)
    have hB3 := (Nat.lt_of_lt_of_le (show w.heap.size < _ by simp only [Nat.add_assoc]; exact Nat.lt_add_of_pos_right (by omega)) hB2)
    exact ⟨⟨_, _, _, _, by (go_simp; first | rfl | exact ⟨rfl, rfl, rfl, rfl⟩), AbOk.stat rfl rfl (Nat.le_of_lt hA3) (RowsV.grow (RowsV.off (b := w.heap.size) hA1 (Off.plus (Off.alloc (Off.plus (Off.base w _ _ _ rfl) _) _) _) (Nat.ne_of_gt hA3)) (by repeat (first | exact Grow.refl _ | refine Grow.andr ?_ | refine Grow.plus ?_ _ | refine Grow.alloc ?_ _ | refine Grow.drew ?_ | refine Grow.drewN ?_ _))), .of rfl (by decide), .of rfl (by decide), AbOk.stat rfl rfl (Nat.le_of_lt hB3) (RowsV.grow (RowsV.off (b := w.heap.size) hB1 (Off.plus (Off.alloc (Off.plus (Off.base w _ _ _ rfl) _) _) _) (Nat.ne_of_gt hB3)) (by repeat (first | exact Grow.refl _ | refine Grow.andr ?_ | refine Grow.plus ?_ _ | refine Grow.alloc ?_ _ | refine Grow.drew ?_ | refine Grow.drewN ?_ _)))⟩, (by repeat (first | exact Grow.refl _ | refine Grow.andr ?_ | refine Grow.plus ?_ _ | refine Grow.alloc ?_ _ | refine Grow.drew ?_ | refine Grow.drewN ?_ _))⟩
end Go.Proofs.YtibmnofpoenonaaGreatDoor
