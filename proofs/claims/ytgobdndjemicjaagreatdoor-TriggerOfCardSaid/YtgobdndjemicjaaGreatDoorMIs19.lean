/-
  What stands in a right state's lists stands there once.
  The walks of Ints and States: two lists, two states are the same.
  The walks of an emitter's Events and Pending, of Num and Events.
-/
import Derived.Test.YtgobdndjemicjaaGreatDoorMDo
import Derived.Test.YtgobdndjemicjaaGreatDoorMEm
import Derived.Test.YtgobdndjemicjaaGreatDoorMPutN
namespace Go.Proofs.YtgobdndjemicjaaGreatDoor
open Go Go.RowKit

theorem Zon.count_le {S : St} (h : Zon S) {z : Nat} (hz : z < 11) (x : Int) : (S.list z).count x ≤ 1 := by
  by_cases hx : x ∈ S.list z
  · obtain ⟨h0, h1, _⟩ := h.ok z hz _ hx
    have hone := h.once x.toNat (by omega)
    rw [Int.toNat_of_nonneg h0] at hone
    have : ∀ k, z < k → (S.list z).count x ≤ cntTo S x k := fun k => by
      induction k with
      | zero => intro h; omega
      | succ k ih =>
        intro hk
        rw [cntTo_succ]
        by_cases e : z = k
        · subst e; omega
        · have := ih (by omega); omega
    have := this 11 hz
    omega
  · rw [List.count_eq_zero.2 hx]; omega
theorem Zon.nodup {S : St} (h : Zon S) {z : Nat} (hz : z < 11) : (S.list z).Nodup := List.nodup_iff_count.2 (h.count_le hz)
theorem Zon.len_le {S : St} (h : Zon S) {z : Nat} (hz : z < 11) : (S.list z).length ≤ S.objs.length := by
  have := len_le_of_sub (S.list z) ((List.range S.objs.length).map Int.ofNat) (h.nodup hz) (fun x hx => by
    obtain ⟨h0, h1, _⟩ := h.ok z hz _ hx
    exact List.mem_map.2 ⟨x.toNat, List.mem_range.2 (by omega), Int.toNat_of_nonneg h0⟩)
  simpa using this
theorem Right.smallN {S : St} (h : Right S) : SmallN S 400 := ⟨h.many, fun _ hz => Nat.le_trans (h.zon.len_le hz) h.many⟩
end Go.Proofs.YtgobdndjemicjaaGreatDoor
namespace Go.Proofs.YtgobdndjemicjaaGreatDoor
open Go Go.RowKit Go.Shelf

theorem run_part_row' {P : Program} (w : World) (e k o : Nat) (cs : Array Value) (ha : (isAgg e).run P w = .ok true w) (hs : (sizeOf e).run P w = .ok k w) : (part e cs o).run P w = .ok (.agg (sub cs o k)) w := by
  unfold part
  rw [Sem.run_bind, ha]
  simp only [Result.andThen_ok, if_true, Sem.run_bind, hs, sub, Sem.run_pure]
@[go_sem] theorem eqIn_players' (w : World) (a : List Int) (ha : a.length = 18) : (Op.equalIn 10000 26 (.agg (cellsOf a)) (.agg (cellsOf a))).run Tryz.prog w = .ok true w := by
  have hsub : ∀ i, i < 2 → sub (cellsOf a) (i * 9) 9 = cellsOf ((a.drop (i * 9)).take 9) := fun i hi => by
    apply Array.ext_getElem?
    intro j
    unfold sub
    rw [Array.getElem?_extract]
    simp only [cellsOf, List.getElem?_toArray, List.getElem?_map, List.getElem?_take, List.getElem?_drop, List.size_toArray, List.length_map, ha]
    by_cases hj : j < 9
    · rw [if_pos (by omega), if_pos hj]
    · rw [if_neg (by omega), if_neg hj]; rfl
  have := run_equalIn_array w 26 25 2 9 Tryz.underlying26 (by kernel_rfl) 9999 (cellsOf a) (cellsOf a) (fun _ => true) (fun i hi => ⟨_, _, run_part_row' w _ 9 _ _ (by kernel_rfl) (by kernel_rfl), run_part_row' w _ 9 _ _ (by kernel_rfl) (by kernel_rfl), by
    rw [hsub i hi, show (9999 : Nat) = 9997 + 2 from rfl, run_equalIn_ints w 25 3 9 Tryz.underlying25 Tryz.underlying3 (by kernel_rfl) 9997 _ _ (by rw [List.length_take, List.length_drop, ha]; omega) (by rw [List.length_take, List.length_drop, ha]; omega)]
    simp⟩)
  rw [show (10000 : Nat) = 9999 + 1 from rfl, this]
  rfl
@[go_sem] theorem eqIn_game' (w : World) (a b : List Int) (ha : a.length = 7) (hb : b.length = 7) : (Op.equalIn 10000 27 (.agg (cellsOf a)) (.agg (cellsOf b))).run Tryz.prog w = .ok (decide (a = b)) w :=
  run_equalIn_ints w 27 3 7 Tryz.underlying27 Tryz.underlying3 (by kernel_rfl) 9998 a b ha hb
end Go.Proofs.YtgobdndjemicjaaGreatDoor
namespace Go.Proofs.YtgobdndjemicjaaGreatDoor
open Go Go.RowKit Go.Shelf

theorem cloned_pends (w : World) (s : Sl) (l : List (List Int)) (R : Rows' w s 3 l) (hb : l.length ≤ 1048576) :
    Calls Tryz.prog 54 #[s.val] w fun e w' => ∃ s' : Sl, e = .returned s'.val ∧ Own w' s' 99 3 w.heap.size (flat l) ∧ s'.isNil = s.isNil ∧ Grow w w' := by
  cases s with
  | nil =>
    have hl : l = [] := List.eq_nil_of_length_eq_zero R.len.symm
    subst hl
    refine (AnyE.slices_Clone_nil Tryz.clonePends 0 0 w).mono ?_
    rintro e w' ⟨rfl, rfl⟩
    exact ⟨.nil, rfl, ⟨⟨by simp [Sl.n, flat], Nat.le_refl _, fun j u hu => by simp [flat] at hu⟩, Nat.zero_le _, rfl, fun b h => h.elim⟩, rfl, Grow.refl _⟩
  | mk b o n c =>
    have hn : n = l.length := R.len
    subst hn
    obtain ⟨f1, _⟩ := flat_at 3 l R.wid
    refine (AnyE.slices_Clone Tryz.clonePends Tryz.t99 (.agg (cellsOf (List.replicate 3 0))) 3 24 (by kernel_rfl) (by kernel_rfl) (by kernel_rfl) (by kernel_rfl) rfl (by omega) (fun w => by kernel_rfl) b o l.length c (flat l) w (by rw [flat, List.length_map, f1]) (by unfold maxLen; omega) (by omega) (fun j u hu => R.cells.cell j u hu) (flat_oneCell l)).mono ?_
    rintro e w' ⟨v', rfl, hown, hne, hb⟩
    obtain ⟨s', rfl, hI, _⟩ := own_of_row hown
    refine ⟨s', rfl, hI, ?_, Grow.of_below hb⟩
    cases s' with
    | nil => exact absurd rfl hne
    | mk => rfl
@[go_sem] theorem indexAt_pends (w : World) (s : Sl) (q : IntKind) (i : Int) (h0 : 0 ≤ i) (h1 : i < s.n) : (Instr.indexAt 55 s.val (.int q i)).run Tryz.prog w = .ok (.pointer (some ⟨s.b, s.o + i.toNat * 3, none⟩)) w :=
  run_indexAt_sl w Tryz.underlying55 (fun w => (by kernel_rfl : (sizeOf 99).run Tryz.prog w = .ok 3 w)) s q i h0 h1
@[go_sem] theorem assert_Errno (n : Int) (w : World) : (Instr.typeAssert (.iface 96 (.int .i64 n)) 51 96 true).run Tryz.prog w = .ok (.tuple #[.int .i64 n, .bool true]) w := by kernel_rfl
end Go.Proofs.YtgobdndjemicjaaGreatDoor
