/-
  Costs: rows of six numbers, in a walk.
-/
import Derived.Test.YtondnigiepkobaaEq
import Derived.Test.YtondnigiepkobaaRows
namespace Go.Proofs.Ytondnigiepkobaa
open Go Go.RowKit

@[go_sem ↓] theorem load_Cost (ρ : Operand → Value) (dst : Option Tmp) (x : Operand) (ty : TypeId) (pos : String) (after : Array Edge) (guard : Option (Nat × Bool)) :
    execOp ρ { dst, op := .load 23 x, type := ty, pos, after, guard } = ldRow 23 (ρ x) := rfl
@[go_sem ↓] theorem store_Cost (ρ : Operand → Value) (dst : Option Tmp) (x y : Operand) (ty : TypeId) (pos : String) (after : Array Edge) (guard : Option (Nat × Bool)) :
    execOp ρ { dst, op := .store 23 x y, type := ty, pos, after, guard } = stRow 23 (ρ x) (ρ y) := rfl
@[go_sem] theorem run_load_Cost (w : World) (b : Nat) (h : (w.blk b).size = 6) : (ldRow 23 (.pointer (some ⟨b, 0, none⟩))).run Try.prog w = .ok (.value (.agg (w.blk b))) w :=
  run_ldRow w b 23 6 (by kernel_rfl) (by kernel_rfl) h (by omega)
@[go_sem] theorem run_store_Cost (w : World) (b : Nat) (c : List Int) (h : (w.blk b).size = 6) (hc : c.length = 6) (hf : w.free b = true) : (stRow 23 (.pointer (some ⟨b, 0, none⟩)) (.agg (cellsOf c))).run Try.prog w = .ok .skip (w.setRow b (cellsOf c)) :=
  run_stRow w b 23 6 _ (by kernel_rfl) h (by rw [cellsOf_size, hc]) (by omega) hf (cellsOf_oneCell c)
@[go_sem] theorem equalIn_Cost (w : World) (a b : List Int) (ha : a.length = 6) (hb : b.length = 6) : (Op.equalIn 10000 23 (.agg (cellsOf a)) (.agg (cellsOf b))).run Try.prog w = .ok (decide (a = b)) w :=
  run_equalIn_ints w 23 3 6 Try.underlying23 Try.underlying3 (by kernel_rfl) 9998 a b ha hb
@[go_sem] theorem index_Cost (w : World) (c : List Int) (hc : c.length = 6) (k : IntKind) (i : Int) (h0 : 0 ≤ i) (h1 : i < 6) : (Instr.index 23 (.agg (cellsOf c)) (.int k i)).run Try.prog w = .ok (I (gt c i.toNat)) w :=
  run_index_ints w 23 3 6 Try.underlying23 Try.underlying3 (by kernel_rfl) c hc k i h0 h1
theorem loadVar_Cost (w : World) (b : Nat) (h : (w.blk b).size = 6) : (loadVar 23 ⟨b, 0, none⟩).run Try.prog w = .ok (.agg (w.blk b)) w := by
  have := run_load_Cost w b h
  unfold ldRow at this
  rw [Sem.run_bind] at this
  simp only [Instr.loadAt, Instr.sureAddr, Sem.run_bind, Sem.run_pure, Result.andThen_ok] at this
  cases hr : (loadVar 23 ⟨b, 0, none⟩).run Try.prog w with
  | ok v w' => rw [hr] at this; simp at this; rw [this.1, this.2]
  | halt x w' => rw [hr] at this; simp [Result.andThen] at this


theorem results_CCt {fn : Func} {p q t : Tmp} (h : fn.results = #[.cell p 23, .cell q 23, .tmp t]) (tmps : Array Value) (w : World) (b1 b2 : Nat)
    (hp : tmps.getD p undef = .pointer (some ⟨b1, 0, none⟩)) (hq : tmps.getD q undef = .pointer (some ⟨b2, 0, none⟩)) (h1 : (w.blk b1).size = 6) (h2 : (w.blk b2).size = 6) :
    (results fn tmps).run Try.prog w = .ok (.tuple #[.agg (w.blk b1), .agg (w.blk b2), tmps.getD t undef]) w := by
  unfold results
  rw [h]
  simp only [Sem.run_bind]
  have e1 := loadVar_Cost w b1 h1
  have e2 := loadVar_Cost w b2 h2
  have hp' : tmps[p]?.getD undef = .pointer (some ⟨b1, 0, none⟩) := by simpa using hp
  have hq' : tmps[q]?.getD undef = .pointer (some ⟨b2, 0, none⟩) := by simpa using hq
  simp [asAddr, hp', hq', e1, e2]
theorem results_Ct {fn : Func} {p t : Tmp} (h : fn.results = #[.cell p 23, .tmp t]) (tmps : Array Value) (w : World) (b1 : Nat)
    (hp : tmps.getD p undef = .pointer (some ⟨b1, 0, none⟩)) (h1 : (w.blk b1).size = 6) :
    (results fn tmps).run Try.prog w = .ok (.tuple #[.agg (w.blk b1), tmps.getD t undef]) w := by
  unfold results
  rw [h]
  simp only [Sem.run_bind]
  have e1 := loadVar_Cost w b1 h1
  have hp' : tmps[p]?.getD undef = .pointer (some ⟨b1, 0, none⟩) := by simpa using hp
  simp [asAddr, hp', e1]
end Go.Proofs.Ytondnigiepkobaa
