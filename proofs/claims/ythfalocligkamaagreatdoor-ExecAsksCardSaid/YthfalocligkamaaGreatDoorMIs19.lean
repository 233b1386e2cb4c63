/- What stands in a right state's lists stands there once. -/
import Derived.Test.YthfalocligkamaaGreatDoorMDo
import Derived.Test.YthfalocligkamaaGreatDoorMEm
import Derived.Test.YthfalocligkamaaGreatDoorMPutN
namespace Go.Proofs.YthfalocligkamaaGreatDoor
open Go Go.RowKit
theorem Zon.count_le {S : St} (h : Zon S) {z : Nat} (hz : z < 11) (x : Int) : (S.list z).count x ≤ 1 := by
 by_cases hx : x ∈ S.list z
 · obtain ⟨h0, h1, _⟩ := h.ok z hz _ hx
   have hone := h.once x.toNat (by omega)
   rw [Int.toNat_of_nonneg h0] at hone
   have : ∀ k, z < k → (S.list z).count x ≤ zcg S x k := fun k => by
    induction k with
    | zero => intro h; omega
    | succ k ih =>
      intro hk
      rw [zb0]
      by_cases e : z = k
      · subst e; omega
      · have := ih (by omega); omega
   have := this 11 hz
   omega
 · rw [List.count_eq_zero.2 hx]; omega
theorem Zon.nodup {S : St} (h : Zon S) {z : Nat} (hz : z < 11) : (S.list z).Nodup := List.nodup_iff_count.2 (h.count_le hz)
theorem Zon.len_le {S : St} (h : Zon S) {z : Nat} (hz : z < 11) : (S.list z).length ≤ S.objs.length := by
 have := zdc (S.list z) ((List.range S.objs.length).map Int.ofNat) (h.nodup hz) (fun x hx => by
  obtain ⟨h0, h1, _⟩ := h.ok z hz _ hx
  exact List.mem_map.2 ⟨x.toNat, List.mem_range.2 (by omega), Int.toNat_of_nonneg h0⟩)
 simpa using this
theorem Right.smallN {S : St} (h : Right S) : SmallN S 400 := ⟨h.many, fun _ hz => Nat.le_trans (h.zon.len_le hz) h.many⟩
end Go.Proofs.YthfalocligkamaaGreatDoor
namespace Go.Proofs.YthfalocligkamaaGreatDoor
open Go Go.RowKit Go.Shelf
set_option maxRecDepth 100000 in
set_option maxHeartbeats 2000000 in
theorem zwy (w : World) (s1 s2 : Sl) (l : List Int) (R1 : Ints w s1 l) (R2 : Ints w s2 l) (hb : l.length ≤ 1048576) :
 Calls Tryz.prog 11 #[s1.val, s2.val] w fun e w' => e = .returned (.bool true) ∧ Grow w w' := by
 have n1 := R1.len
 have n2 := R2.len
 have H1 := Lib.hid R1
 have H2 := Lib.hid R2
 clear R1 R2
 go_enter Tryz.func11, Tryz.ntmps11
 go_wp2_with fail
 go_loopw [13] (fun i wr => ∃ k : Nat, k ≤ l.length ∧ i = .int .i64 k ∧ Grow w wr) (fun i _ => l.length - (intOf i).toNat)
 case atStart => exact ⟨0, by omega, rfl, grI⟩
 case round =>
  obtain ⟨k, hk, rfl, x, rfl⟩ := hrel
  by_cases hlt : k < l.length
  · obtain ⟨q1, q2⟩ := H1.out.at k hlt
    obtain ⟨q3, q4⟩ := H2.out.at k hlt
    generalize gt l k = y at *
    go_wp2_with fail
    refine zab (by kernel_rfl) (by kernel_rfl) ?_; (repeat (go_big_quiet_step ( fail ))); refine wpQuiet_nil ?_; rintro _ ⟨nx, rfl⟩
    go_wp2_with fail
    go_roundw
    case rel => exact ⟨k + 1, by omega, by go_num, grI⟩
    case measure => simp [intOf]; omega
  · go_wp2_with fail
    go_ret
    exact ⟨rfl, grI⟩
theorem zhj {P : Program} (w : World) (e k o : Nat) (cs : Array Value) (ha : (isAgg e).run P w = .ok true w) (hs : (sizeOf e).run P w = .ok k w) : (part e cs o).run P w = .ok (.agg (sub cs o k)) w := by
 unfold part
 rw [Sem.run_bind, ha]
 simp only [Result.andThen_ok, if_true, Sem.run_bind, hs, sub, Sem.run_pure]
@[go_sem] theorem z00 (w : World) (a : List Int) (ha : a.length = 18) : (Op.equalIn 10000 26 (.agg (cellsOf a)) (.agg (cellsOf a))).run Tryz.prog w = .ok true w := by
 have hsub : ∀ i, i < 2 → sub (cellsOf a) (i * 9) 9 = cellsOf ((a.drop (i * 9)).take 9) := fun i hi => by
  apply Array.ext_getElem?
  intro j
  unfold sub
  rw [Array.getElem?_extract]
  simp only [cellsOf, List.getElem?_toArray, List.getElem?_map, List.getElem?_take, List.getElem?_drop, List.size_toArray, List.length_map, ha]
  by_cases hj : j < 9
  · rw [if_pos (by omega), if_pos hj]
  · rw [if_neg (by omega), if_neg hj]; rfl
 have := zex w 26 25 2 9 Tryz.underlying26 (by kernel_rfl) 9999 (cellsOf a) (cellsOf a) (fun _ => true) (fun i hi => ⟨_, _, zhj w _ 9 _ _ (by kernel_rfl) (by kernel_rfl), zhj w _ 9 _ _ (by kernel_rfl) (by kernel_rfl), by
  rw [hsub i hi, show (9999 : Nat) = 9997 + 2 from rfl, zdq w 25 3 9 Tryz.underlying25 Tryz.underlying3 (by kernel_rfl) 9997 _ _ (by rw [List.length_take, List.length_drop, ha]; omega) (by rw [List.length_take, List.length_drop, ha]; omega)]
  simp⟩)
 rw [show (10000 : Nat) = 9999 + 1 from rfl, this]
 rfl
@[go_sem] theorem z9u (w : World) (a b : List Int) (ha : a.length = 7) (hb : b.length = 7) : (Op.equalIn 10000 27 (.agg (cellsOf a)) (.agg (cellsOf b))).run Tryz.prog w = .ok (decide (a = b)) w :=
 zdq w 27 3 7 Tryz.underlying27 Tryz.underlying3 (by kernel_rfl) 9998 a b ha hb
end Go.Proofs.YthfalocligkamaaGreatDoor
namespace Go.Proofs.YthfalocligkamaaGreatDoor
open Go Go.RowKit Go.Shelf
@[go_sem] theorem z2d (w : World) (s : Sl) (q : IntKind) (i : Int) (h0 : 0 ≤ i) (h1 : i < s.n) : (Instr.indexAt 80 s.val (.int q i)).run Tryz.prog w = .ok (.pointer (some ⟨s.b, s.o + i.toNat * 3, none⟩)) w :=
 zbh w Tryz.underlying80 (fun w => (by kernel_rfl : (sizeOf 176).run Tryz.prog w = .ok 3 w)) s q i h0 h1
@[go_sem] theorem z4v (n : Int) (w : World) : (Instr.typeAssert (.iface 66 (.int .i64 n)) 51 66 true).run Tryz.prog w = .ok (.tuple #[.int .i64 n, .bool true]) w := by kernel_rfl
end Go.Proofs.YthfalocligkamaaGreatDoor
