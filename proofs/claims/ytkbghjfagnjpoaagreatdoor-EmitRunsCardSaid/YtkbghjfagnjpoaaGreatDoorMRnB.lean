/-
  Plain: what the acts tell leads from the first state to the last.
-/
import Derived.Test.YtkbghjfagnjpoaaGreatDoorMRnN
import Derived.Test.YtkbghjfagnjpoaaGreatDoorMDo19
import Derived.Test.YtkbghjfagnjpoaaGreatDoorMIs19
namespace Go.Proofs.YtkbghjfagnjpoaaGreatDoor
open Go Go.RowKit

theorem ZonW.count_le {S : St} (h : ZonW S) {z : Nat} (hz : z < 11) (x : Int) : (S.list z).count x ≤ 1 := by
  by_cases hx : x ∈ S.list z
  · obtain ⟨h0, h1, _⟩ := h.ok z hz _ hx
    have hone := h.once x.toNat (by omega)
    rw [Int.toNat_of_nonneg h0] at hone
    have : ∀ k, z < k → (S.list z).count x ≤ cntTo S x k := fun k => by
      induction k with
      | zero => intro h; omega
      | succ k ih =>
        intro hk
        rw [cntTo_succ]
        by_cases e : z = k
        · subst e; omega
        · have := ih (by omega); omega
    have := this 11 hz
    omega
  · rw [List.count_eq_zero.2 hx]; omega
theorem ZonW.len_le {S : St} (h : ZonW S) {z : Nat} (hz : z < 11) : (S.list z).length ≤ S.objs.length := by
  have := len_le_of_sub (S.list z) ((List.range S.objs.length).map Int.ofNat) (List.nodup_iff_count.2 (h.count_le hz)) (fun x hx => by
    obtain ⟨h0, h1, _⟩ := h.ok z hz _ hx
    exact List.mem_map.2 ⟨x.toNat, List.mem_range.2 (by omega), Int.toNat_of_nonneg h0⟩)
  simpa using this
theorem Fine.smallN {S : St} (h : Fine S) : SmallN S 400 := ⟨h.many, fun _ hz => Nat.le_trans (h.zon.len_le hz) h.many⟩
theorem Told.fine {S : St} (hS : Fine S) {d : List Int} {n : Nat} {E : Em} (h : Told S d n E) : Fine E.now := (hS.run E.evs h.evs h.run).1
theorem shufD_lenW {E : Em} (h : Fine E.now) (p : Nat) (hp : p < 11) : (E.shufD p).length ≤ 400 := by
  unfold Em.shufD dealt
  rw [List.length_map]
  exact Nat.le_trans (ordR_len _ _ _) (h.smallN.list p hp)
set_option maxHeartbeats 4000000 in
theorem Told.act {S : St} (hS : Fine S) {d : List Int} {n : Nat} {E : Em} (h : Told S d n E) (k a b c : Int) : OutT S d (n + 1000) (E.act k a b c) := by
  have hF := h.fine hS
  have hO : OutT S d n E := Or.inr h
  unfold Em.act
  split
  · exact (hO.setObj a b c).mono (by omega)
  split
  · exact (hO.setPl a b c).mono (by omega)
  split
  · exact (hO.setGame a b).mono (by omega)
  split
  · exact (hO.put a b).mono (by omega)
  split
  · exact (hO.make a b c).mono (by omega)
  split
  · exact (hO.life a b).mono (by omega)
  split
  · exact (hO.mana a b c).mono (by omega)
  split
  · exact (hO.draw a).mono (by omega)
  split
  · exact (hO.pick a).mono (by omega)
  split
  · by_cases hp : a = 0 ∨ a = 1
    · have := shufD_lenW hF a.toNat (by omega)
      exact (hO.shuffle a).mono (by omega)
    · refine Or.inl ?_
      unfold Em.shuffle
      rw [if_neg (by rw [h.err]; simp), if_pos hp]
      show (1 : Int) ≠ 0
      decide
  split
  · exact (hO.show a b).mono (by omega)
  split
  · exact (hO.pend [] (Nat.zero_le _)).mono (by omega)
  · exact hO.mono (by omega)
theorem Told.rdy {S : St} (hS : Fine S) {d : List Int} {n : Nat} {E : Em} {w : World} {own : Nat → Prop} (h : Told S d n E) (hn : n ≤ 65536) (hd : d.length ≤ 1048576) (G : GlobE w own) : Rdy w own E where
  err := h.err
  ok := ⟨(h.fine hS).smallN.mono (by omega), by have := h.len; omega, by have := h.pend; omega⟩
  glob := G
  zone := fun i hi => (h.fine hS).zon.zone i hi
  nums := fun q hq => (h.fine hS).num q (by omega)
  draws := by rw [h.draws]; exact hd
  cur := ((h.fine hS).num 23 (by omega)).2
theorem new_told {S : St} (h : checkN S = 0) (d : List Int) : OutT S d 0 (Em.new S d) := by
  unfold Em.new Em.fail
  rw [h, if_pos rfl]
  by_cases hd : 4096 < d.length
  · rw [if_pos hd]; exact Or.inl (by show (19 : Int) ≠ 0; decide)
  · rw [if_neg hd]; exact Or.inr ⟨rfl, rfl, Nat.le_refl _, rfl, fun e he => by (cases he), Nat.le_refl _⟩
theorem new_err {S : St} (h : checkN S ≠ 0) (d : List Int) : (Em.new S d).err ≠ 0 := by
  unfold Em.new Em.fail
  show (if checkN S = 0 then (⟨S, d, [], [], if 4096 < d.length then 19 else 0⟩ : Em) else ⟨S, d, [], [], checkN S⟩).err ≠ 0
  rw [if_neg h]
  exact h
theorem actBad_errE (E : Em) (k : Int) : (E.actBad k).err = E.err := by unfold Em.actBad; split <;> rfl
theorem invR_len (l : List (List Int)) : (invR l).length = l.length := by simp [invR]
end Go.Proofs.YtkbghjfagnjpoaaGreatDoor
