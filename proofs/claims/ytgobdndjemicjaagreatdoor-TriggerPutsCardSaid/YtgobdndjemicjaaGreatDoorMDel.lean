/- Rows of hits in memory. -/
import Derived.Test.YtgobdndjemicjaaGreatDoorMMade
import Derived.Test.YtgobdndjemicjaaGreatDoorMRanges
namespace Go.Proofs.YtgobdndjemicjaaGreatDoor
open Go Go.RowKit
@[go_sem ↓] theorem ye9 (ρ : Operand → Value) (dst : Option Tmp) (x : Operand) (ty : TypeId) (pos : String) (after : Array Edge) (guard : Option (Nat × Bool)) :
 execOp ρ { dst, op := .load 185 x, type := ty, pos, after, guard } = za8 185 (ρ x) := rfl
@[go_sem ↓] theorem yd6 (ρ : Operand → Value) (dst : Option Tmp) (x y : Operand) (ty : TypeId) (pos : String) (after : Array Edge) (guard : Option (Nat × Bool)) :
 execOp ρ { dst, op := .store 185 x y, type := ty, pos, after, guard } = zas 185 (ρ x) (ρ y) := rfl
@[go_sem] theorem z6n (w : World) (b o : Nat) (h : o + 3 ≤ (w.blk b).size) : (za8 185 (.pointer (some ⟨b, o, none⟩))).run Tryz.prog w = .ok (.value (.agg (sub (w.blk b) o 3))) w :=
 zaw w b o 185 3 (by kernel_rfl) (by kernel_rfl) h (by omega)
@[go_sem] theorem z34 (w : World) (b : Nat) (cs : Array Value) (h : (w.blk b).size = 3) (hc : cs.size = 3) (h1 : zal cs = true) (hf : w.free b = true) : (zas 185 (.pointer (some ⟨b, 0, none⟩)) (.agg cs)).run Tryz.prog w = .ok .skip (w.setRow b cs) :=
 zax w b 185 3 _ (by kernel_rfl) h hc (by omega) hf h1
@[go_sem ↓] theorem ya8 (ρ : Operand → Value) (dst : Option Tmp) (parts : Array (Nat × Operand)) (ty : TypeId) (pos : String) (after : Array Edge) (guard : Option (Nat × Bool)) :
 execOp ρ { dst, op := .build 185 parts, type := ty, pos, after, guard } = za2 185 (parts.map fun (i, x) => (i, ρ x)) := rfl
@[go_sem] theorem z31 (w : World) (a b c : Int) : (za2 185 #[(0, .int .i64 a), (1, .int .i64 b), (2, .int .i64 c)]).run Tryz.prog w = .ok (.value (.agg (cellsOf [a, b, c]))) w := by kernel_rfl
@[go_sem ↓] theorem z66 (ρ : Operand → Value) (dst : Option Tmp) (n : Nat) (parts : Array (Nat × Operand)) (ty : TypeId) (pos : String) (after : Array Edge) (guard : Option (Nat × Bool)) :
 execOp ρ { dst, op := .buildSlice 183 n parts, type := ty, pos, after, guard } = zc7 183 n (parts.map fun (i, x) => (i, ρ x)) := rfl
@[go_sem] theorem yaj (w : World) (a b c : Int) : (zc7 183 1 #[(0, .agg (cellsOf [a, b, c]))]).run Tryz.prog w = .ok (.value (.slice (some ⟨w.heap.size, 0, none⟩) 1 1)) (w.alloc (.cells (cellsOf [a, b, c]) 185)) := by kernel_rfl
@[go_sem] theorem z56 (w : World) (s : Sl) (q : IntKind) (i : Int) (h0 : 0 ≤ i) (h1 : i < s.n) : (Instr.indexAt 183 s.val (.int q i)).run Tryz.prog w = .ok (.pointer (some ⟨s.b, s.o + i.toNat * 3, none⟩)) w :=
 zbi w Tryz.underlying183 (fun w => (by kernel_rfl : (sizeOf 185).run Tryz.prog w = .ok 3 w)) s q i h0 h1
theorem Cells.rows3 {w : World} {s : Sl} {l : List (List Int)} (h : Cells w s 3 (zci l)) (hw : ∀ r, r ∈ l → r.length = 3) : Rows' w s 3 l :=
 h.rows (by decide) (fun i hi => hw _ (zm3 l i hi))
theorem znz (l : List (List Int)) : ∀ u ∈ zci l, u.oneCell' = true := by
 intro u hu
 obtain ⟨x, _, rfl⟩ := List.mem_map.1 hu
 rfl
end Go.Proofs.YtgobdndjemicjaaGreatDoor
namespace Go.Proofs.YtgobdndjemicjaaGreatDoor
open Go Go.RowKit
end Go.Proofs.YtgobdndjemicjaaGreatDoor
namespace Go.Proofs.YtgobdndjemicjaaGreatDoor
open Go Go.RowKit
theorem Rows'.put {w : World} {s : Sl} {k : Nat} {l : List (List Int)} (h : Rows' w s k l) {i : Nat} (hi : i < l.length) {r : List Int} (hr : r.length = k) : Rows' (w.setCells s.b (s.o + i * k) (r.map I)) s k (l.set i r) := by
 have hth : ∀ q, q < (r.map I).length → (w.cell? ⟨s.b, s.o + i * k + q, none⟩).isSome = true := fun q hq => by
  rw [h.cell i q hi (by rw [List.length_map, hr] at hq; exact hq)]; rfl
 have hrow : ∀ m, rowAt (l.set i r) m = if i = m then r else rowAt l m := fun m => zby l i m r hi
 refine ⟨by rw [List.length_set]; exact h.len, h.cap, fun m hm => ?_, fun m j hm hj => ?_⟩
 · rw [List.length_set] at hm
   rw [hrow]
   split
   · exact hr
   · exact h.wid m hm
 · rw [List.length_set] at hm
   rw [hrow]
   by_cases e : i = m
   · subst e
     rw [if_pos rfl]
     have := World.cell?_setCells_in s.b (r.map I) (s.o + i * k) w hth j (by rw [List.length_map, hr]; exact hj)
     rw [this]
     simp [gt, hr, hj]
   · rw [if_neg e]
     have hb : m * k + k ≤ i * k ∨ i * k + k ≤ m * k := by
      rcases Nat.lt_or_gt_of_ne e with h1 | h1
      · right
        have : (i + 1) * k ≤ m * k := Nat.mul_le_mul_right _ h1
        rw [Nat.add_mul] at this; omega
      · left
        have : (m + 1) * k ≤ i * k := Nat.mul_le_mul_right _ h1
        rw [Nat.add_mul] at this; omega
     rw [World.cell?_setCells_out s.b _ _ _ _ (fun _ _ => by
      show s.o + m * k + j < s.o + i * k ∨ s.o + i * k + (r.map I).length ≤ s.o + m * k + j
      rw [List.length_map, hr]; omega)]
     exact h.cell m j hm hj
theorem Room.put {w : World} {s : Sl} {k : Nat} (h : Room w s k) (o : Nat) (vs : List Value) (ho : s.o ≤ o) (hv : o + vs.length ≤ s.o + s.c * k) : Room (w.setCells s.b o vs) s k := by
 refine ⟨h.max, fun j hj => ?_⟩
 obtain ⟨t1, t2⟩ := h.there j hj
 rw [World.frozen?_setCells]
 refine ⟨?_, t2⟩
 by_cases hin : o ≤ s.o + j ∧ s.o + j < o + vs.length
 · have := World.cell?_setCells_in s.b vs o w (fun q hq => by
    have := (h.there (o - s.o + q) (by omega)).1
    rw [show s.o + (o - s.o + q) = o + q by omega] at this; exact this) (s.o + j - o) (by omega)
   rw [show s.o + j = o + (s.o + j - o) by omega, this]; rfl
 · rw [World.cell?_setCells_out s.b _ _ _ _ (fun _ _ => by show s.o + j < o ∨ o + vs.length ≤ s.o + j; omega)]
   exact t1
def Sl.pre (s : Sl) (i : Nat) : Sl := match s with
 | .nil => .nil
 | .mk b o _ c => .mk b o i c
def Sl.post (s : Sl) (l k : Nat) : Sl := match s with
 | .nil => .nil
 | .mk b o n c => .mk b (if c = l then o else o + l * k) (n - l) (c - l)
section
variable {P : Program} (w : World)
theorem zlh {t e : TypeId} {k : Nat} (ht : P.underlying t = some (.slice e)) (hk : ∀ w, (sizeOf e).run P w = .ok k w) (s : Sl) (q : IntKind) (i : Int) (h0 : 0 ≤ i) (h1 : i ≤ s.n) :
 (Instr.slice t s.val (some (.int q i)) none none).run P w = .ok (s.post i.toNat k).val w := by
 cases s with
 | nil =>
   have : i = 0 := by simp [Sl.n] at h1; omega
   subst this
   simp [Instr.slice, Sl.val, Sl.post, run_underlying ht, hk, Instr.sliceBounds, run_sliceBound]
 | mk b o n c =>
   simp only [Sl.n] at h1
   simp only [Instr.slice, Sl.val, Sl.post, Sem.run_bind, run_underlying ht, Result.andThen_ok, Instr.sliceBounds, Sem.run_pure, run_sliceBound w q i n _ h0 h1, hk]
   split <;> simp [Addr.add]
theorem znb {t e : TypeId} {k : Nat} (ht : P.underlying t = some (.slice e)) (hk : ∀ w, (sizeOf e).run P w = .ok k w) (s : Sl) (q : IntKind) (i : Int) (h0 : 0 ≤ i) (h1 : i ≤ s.c) :
 (Instr.slice t s.val none (some (.int q i)) none).run P w = .ok (s.pre i.toNat).val w := by
 have hi : (i.toNat : Int) = i := Int.toNat_of_nonneg h0
 cases s with
 | nil =>
   have : i = 0 := by simp [Sl.c] at h1; omega
   subst this
   simp [Instr.slice, Sl.val, Sl.pre, run_underlying ht, hk, Instr.sliceBounds, run_sliceBound]
 | mk b o n c =>
   simp only [Sl.c] at h1
   simp only [Instr.slice, Sl.val, Sl.pre, Sem.run_bind, run_underlying ht, Result.andThen_ok, Instr.sliceBounds, Sem.run_pure, run_sliceBound w q i c _ h0 h1, hk]
   split <;> simp [Addr.add]
end
@[go_sem] theorem z0u (w : World) (b o : Nat) (c : List Int) (hc : c.length = 3) (ht : w.there b o 3) : (zas 185 (.pointer (some ⟨b, o, none⟩)) (.agg (cellsOf c))).run Tryz.prog w = .ok .skip (w.setCells b o (c.map I)) := by
 unfold zas
 rw [Sem.run_bind, run_storeAt_mid (P := Tryz.prog) w b o 185 (cellsOf c) (by rw [zbr, hc]; exact ht) (by rw [zbr, hc]; kernel_rfl) (zh4 c)]
 rfl
@[go_sem] theorem zze (w : World) (s : Sl) (q : IntKind) (i : Int) (h0 : 0 ≤ i) (h1 : i ≤ s.n) : (Instr.slice 183 s.val (some (.int q i)) none none).run Tryz.prog w = .ok (s.post i.toNat 3).val w :=
 zlh w Tryz.underlying183 (fun w => by kernel_rfl) s q i h0 h1
@[go_sem] theorem z03 (w : World) (s : Sl) (q : IntKind) (i : Int) (h0 : 0 ≤ i) (h1 : i ≤ s.c) : (Instr.slice 183 s.val none (some (.int q i)) none).run Tryz.prog w = .ok (s.pre i.toNat).val w :=
 znb (k := 3) w Tryz.underlying183 (fun w => by kernel_rfl) s q i h0 h1
end Go.Proofs.YtgobdndjemicjaaGreatDoor
