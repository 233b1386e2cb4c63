/-
  The law EmitRight, walked.
-/
import Derived.Test.YtgobdndjemicjaaGreatDoorMDo19
import Derived.Test.YtgobdndjemicjaaGreatDoorMAlive21
import Derived.Test.YtgobdndjemicjaaGreatDoorMRefChk
namespace Go.Proofs.YtgobdndjemicjaaGreatDoor
open Go Go.RowKit Go.Shelf

@[go_sem ↓] theorem load_Act (ρ : Operand → Value) (dst : Option Tmp) (x : Operand) (ty : TypeId) (pos : String) (after : Array Edge) (guard : Option (Nat × Bool)) :
    execOp ρ { dst, op := .load 65 x, type := ty, pos, after, guard } = ldRow 65 (ρ x) := rfl
@[go_sem ↓] theorem store_Act (ρ : Operand → Value) (dst : Option Tmp) (x y : Operand) (ty : TypeId) (pos : String) (after : Array Edge) (guard : Option (Nat × Bool)) :
    execOp ρ { dst, op := .store 65 x y, type := ty, pos, after, guard } = stRow 65 (ρ x) (ρ y) := rfl
@[go_sem] theorem run_load_Act (w : World) (b o : Nat) (h : o + 4 ≤ (w.blk b).size) : (ldRow 65 (.pointer (some ⟨b, o, none⟩))).run Tryz.prog w = .ok (.value (.agg (sub (w.blk b) o 4))) w :=
  run_ldSub w b o 65 4 (by kernel_rfl) (by kernel_rfl) h (by omega)
@[go_sem] theorem run_store_Act (w : World) (b : Nat) (cs : Array Value) (h : (w.blk b).size = 4) (hc : cs.size = 4) (h1 : oneCells cs = true) (hf : w.free b = true) : (stRow 65 (.pointer (some ⟨b, 0, none⟩)) (.agg cs)).run Tryz.prog w = .ok .skip (w.setRow b cs) :=
  run_stRow w b 65 4 _ (by kernel_rfl) h hc (by omega) hf h1
@[go_sem] theorem indexAt_acts (w : World) (s : Sl) (q : IntKind) (i : Int) (h0 : 0 ≤ i) (h1 : i < s.n) : (Instr.indexAt 62 s.val (.int q i)).run Tryz.prog w = .ok (.pointer (some ⟨s.b, s.o + i.toNat * 4, none⟩)) w :=
  run_indexAt_sl w Tryz.underlying62 (fun w => (by kernel_rfl : (sizeOf 65).run Tryz.prog w = .ok 4 w)) s q i h0 h1
theorem Gd.act {L n m : Nat} {d : List Int} {E : Em} (h : Gd L n m d E) (hn : n + 14 ≤ 65536) (k a b c : Int) (hk : 3 ≤ k) : Out L (n + 1000) (m + 2) d (E.act k a b c) := by
  unfold Em.act
  rw [if_neg (by omega), if_neg (by omega), if_neg (by omega)]
  split
  · exact (h.put hn a b).mono (by omega) (by omega)
  split
  · exact (h.make a b c).mono (by omega) (by omega)
  split
  · exact (h.life a b).mono (by omega) (by omega)
  split
  · exact (h.mana a b c).mono (by omega) (by omega)
  split
  · exact (h.draw hn a).mono (by omega) (by omega)
  split
  · exact (h.pick a).mono (by omega) (by omega)
  split
  · exact (h.shuffle a).mono (by omega) (by omega)
  split
  · exact (h.show a b).mono (by omega) (by omega)
  split
  · exact Or.inr ⟨h.err, h.right, h.wid, by have := h.evs; show E.evs.length ≤ _; omega, Nat.zero_le _, h.draws, h.len⟩
  · exact (h.mono (by omega) (by omega)).out
theorem Gd.rdy {L n m : Nat} {d : List Int} {E : Em} {w : World} {own : Nat → Prop} (h : Gd L n m d E) (hn : n ≤ 65536) (hm : m ≤ 131072) (hd : d.length ≤ 1048576) (G : GlobE w own) : Rdy w own E where
  err := h.err
  ok := ⟨h.right.smallN.mono (by omega), by have := h.evs; omega, by have := h.pend; omega⟩
  glob := G
  zone := fun i hi => by
    obtain ⟨h1, h2⟩ := h.right.num hi (f := 3) (by decide)
    have h1 : 0 ≤ gt (rowAt E.now.objs i) 3 := h1
    have h2 : gt (rowAt E.now.objs i) 3 ≤ 10 := h2
    omega
  nums := fun q hq => by
    have hp : ∀ p f, p < 2 → f < 9 → q = p * 9 + f → -1073741824 ≤ E.now.num q ∧ E.now.num q ≤ 1073741824 := fun p f hp hf e => by
      have := h.right.pl p f hp hf
      rw [e]
      have hf' : f = 0 ∨ f = 1 ∨ f = 2 ∨ f = 3 ∨ f = 4 ∨ f = 5 ∨ f = 6 ∨ f = 7 ∨ f = 8 := by omega
      rcases hf' with rfl | rfl | rfl | rfl | rfl | rfl | rfl | rfl | rfl <;> simp [plBounds, gt] at this <;> omega
    exact hp (q / 9) (q % 9) (by omega) (by omega) (by omega)
  draws := by rw [h.draws]; exact hd
  cur := by
    have h1 : 0 ≤ E.now.num 23 ∧ E.now.num 23 ≤ 4096 := h.right.gm 5 (by decide)
    omega
theorem row4r {l : List (List Int)} {i : Nat} (h : (rowAt l i).length = 4) : ∃ k a b c, rowAt l i = [k, a, b, c] := by
  match hr : rowAt l i, h with
  | [k, a, b, c], _ => exact ⟨k, a, b, c, rfl⟩
theorem new_out {S : St} (h : checkN S = 0) (hw : WidSt S) (d : List Int) : Out S.objs.length 0 0 d (Em.new S d) := by
  unfold Em.new Em.fail
  rw [h, if_pos rfl]
  by_cases hd : 4096 < d.length
  · rw [if_pos hd]; exact Or.inl (by show (19 : Int) ≠ 0; decide)
  · rw [if_neg hd]; exact Or.inr ⟨rfl, (checkN_zero S).1 h, hw, Nat.le_refl _, Nat.le_refl _, rfl, Nat.le_refl _⟩
theorem actBad_errR (E : Em) (k : Int) : (E.actBad k).err = E.err := by unfold Em.actBad; split <;> rfl
end Go.Proofs.YtgobdndjemicjaaGreatDoor
