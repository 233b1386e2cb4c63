/-
  Who may attack, who may block: of a right state.
  The program's hits, done: the walk of strike.
  All hits, done: the walk of Strike.
  The end of a fight; hits and the end where there is an error or no emitter.
-/
import Derived.Test.YtgobdndjemicjaaGreatDoorMComb
import Derived.Test.YtgobdndjemicjaaGreatDoorMEmPl
import Derived.Test.YtgobdndjemicjaaGreatDoorMAll
import Derived.Test.YtgobdndjemicjaaGreatDoorMEmNew
namespace Go.Proofs.YtgobdndjemicjaaGreatDoor
open Go Go.RowKit

end Go.Proofs.YtgobdndjemicjaaGreatDoor
namespace Go.Proofs.YtgobdndjemicjaaGreatDoor
open Go Go.RowKit Go.Shelf

/-- A hit, done. -/
def Em.strike (E : Em) (S : St) (d : Nat) (t n : Int) : Em :=
  let E1 := if t < 0 then E.life (-1 - t) (-n)
    else E.setObj (t - 1) 6 (min (gt (rowAt E.now.objs (t - 1).toNat) 6 + (if hasB S d 16 = true then n + 1000 else n)) 1073741824)
  if hasB S d 32 = true then E1.life (gt (rowAt S.objs d) 2) n else E1
/-- A hit of a right state. -/
structure HitIn (S : St) (d : Nat) (t n : Int) : Prop where
  from' : creatureB S d = true
  pos : 0 < n
  max : n ≤ 1099511627776
  at' : (t = foeN S) ∨ ∃ e : Nat, t = (e : Int) + 1 ∧ creatureB S e = true
theorem Fi.strike {S : St} {m : Nat} {E : Em} (hS : Right S) (h : Fi S m E) (hm : m + 2 ≤ 65536) {d : Nat} {t n : Int} (H : HitIn S d t n) : Fi S (m + 2) (E.strike S d t n) := by
  have hact := hS.active
  have hd : d < S.objs.length := by have := (creatureB_in H.from').2.1; omega
  have hctl : 0 ≤ gt (rowAt S.objs d) 2 ∧ gt (rowAt S.objs d) 2 ≤ 1 := hS.num hd (f := 2) (by decide)
  unfold Em.strike
  have h1 : Fi S (m + 1) (if t < 0 then E.life (-1 - t) (-n) else E.setObj (t - 1) 6 (min (gt (rowAt E.now.objs (t - 1).toNat) 6 + (if hasB S d 16 = true then n + 1000 else n)) 1073741824)) := by
    rcases H.at' with rfl | ⟨e, rfl, he⟩
    · have hf : foeN S < 0 := by unfold foeN; omega
      rw [if_pos hf]
      obtain ⟨p, hp⟩ := Int.eq_ofNat_of_zero_le (show 0 ≤ -1 - foeN S by unfold foeN; omega)
      rw [hp]
      exact (h.life (by omega) p (by unfold foeN at hp; omega) _).1
    · have he2 := creatureB_in he
      have hel : e < S.objs.length := by omega
      rw [if_neg (by omega), show (e : Int) + 1 - 1 = (e : Int) by omega, Int.toNat_natCast]
      have hdm : 0 ≤ gt (rowAt E.now.objs e) 6 ∧ gt (rowAt E.now.objs e) 6 ≤ 1073741824 := h.right.num (by rw [h.len]; exact hel) (f := 6) (by decide)
      have h0 := H.pos
      have hv : 0 ≤ (if hasB S d 16 = true then n + 1000 else n) := by split <;> omega
      have e1 : gt (objBounds S.objs.length) (6 * 2) = 0 := rfl
      have e2 : gt (objBounds S.objs.length) (6 * 2 + 1) = 1073741824 := rfl
      exact (h.set (by omega) e 6 _ hel (by have := he2.2.2.1; rwa [Int.toNat_natCast] at this) (by omega) (by rw [e1, e2]; omega) (by omega)).1
  dsimp only
  by_cases h32 : hasB S d 32 = true
  · rw [if_pos h32]
    obtain ⟨p, hp⟩ := Int.eq_ofNat_of_zero_le hctl.1
    rw [hp]
    exact (h1.life (by omega) p (by omega) n).1
  · rw [if_neg h32]
    exact h1.mono (by omega)
theorem tPlayer_yes (w : World) (t : Int) (ht : t = -1 ∨ t = -2) : Calls Tryz.prog 219 #[.int .i64 t] w fun e w' => e = .returned (.tuple #[.int .i64 (-1 - t), .bool true]) ∧ Grow w w' := by
  rcases ht with rfl | rfl
  all_goals
    go_enter Tryz.func219, Tryz.ntmps219
    go_wp2_with fail
    go_ret2
    exact ⟨rfl, grI⟩
theorem tPlayer_no (w : World) (t : Int) (ht : 0 < t) : Calls Tryz.prog 219 #[.int .i64 t] w fun e w' => e = .returned (.tuple #[.int .i64 0, .bool false]) ∧ Grow w w' := by
  have h1 : (t != -1) = true := by simp; omega
  have h2 : (t != -2) = true := by simp; omega
  clear ht
  go_enter Tryz.func219, Tryz.ntmps219
  go_wp2_with fail
  go_ret2
  exact ⟨rfl, grI⟩
theorem tObject_yes (w : World) (t : Int) (ht : 0 < t) (hb : t ≤ 1048577) : Calls Tryz.prog 220 #[.int .i64 t] w fun e w' => e = .returned (.tuple #[.int .i64 (t - 1), .bool true]) ∧ Grow w w' := by
  have h1 : (t ≤ 0) = False := by simp; omega
  have h2 : wrap64 (t - 1) = t - 1 := by unfold wrap64; omega
  clear ht hb
  go_enter Tryz.func220, Tryz.ntmps220
  go_wp2_with fail
  go_ret2
  exact ⟨by simp [h2], grI⟩
@[go_sem ↓] theorem load_HitC (ρ : Operand → Value) (dst : Option Tmp) (x : Operand) (ty : TypeId) (pos : String) (after : Array Edge) (guard : Option (Nat × Bool)) :
    execOp ρ { dst, op := .load 185 x, type := ty, pos, after, guard } = ldRow 185 (ρ x) := rfl
@[go_sem ↓] theorem store_HitC (ρ : Operand → Value) (dst : Option Tmp) (x y : Operand) (ty : TypeId) (pos : String) (after : Array Edge) (guard : Option (Nat × Bool)) :
    execOp ρ { dst, op := .store 185 x y, type := ty, pos, after, guard } = stRow 185 (ρ x) (ρ y) := rfl
@[go_sem] theorem run_load_HitC (w : World) (b o : Nat) (h : o + 3 ≤ (w.blk b).size) : (ldRow 185 (.pointer (some ⟨b, o, none⟩))).run Tryz.prog w = .ok (.value (.agg (sub (w.blk b) o 3))) w :=
  run_ldSub w b o 185 3 (by kernel_rfl) (by kernel_rfl) h (by omega)
@[go_sem] theorem run_store_HitC (w : World) (b : Nat) (cs : Array Value) (h : (w.blk b).size = 3) (hc : cs.size = 3) (h1 : oneCells cs = true) (hf : w.free b = true) : (stRow 185 (.pointer (some ⟨b, 0, none⟩)) (.agg cs)).run Tryz.prog w = .ok .skip (w.setRow b cs) :=
  run_stRow w b 185 3 _ (by kernel_rfl) h hc (by omega) hf h1
@[go_sem] theorem field_State0 (w : World) (V : SV) (num : Nat → Int) : (Instr.field 29 (.agg (stA V num)) 0).run Tryz.prog w = .ok V.objs.val w := by
  obtain ⟨o, l⟩ := V
  cases o <;> kernel_rfl
theorem Grow.free {w w' : World} {b : Nat} (g : Grow w w') (hb : b < w.heap.size) : w'.free b = w.free b := by
  obtain ⟨x, rfl⟩ := g
  rw [free_plus, if_pos hb]
end Go.Proofs.YtgobdndjemicjaaGreatDoor
namespace Go.Proofs.YtgobdndjemicjaaGreatDoor
open Go Go.RowKit Go.Shelf

/-- How far a shape's numbers can have come. -/
theorem evStep_in {S : St} {d : Nat} {k : Int} {e : Evl} {x : StN} (F : StFine S x) (hk : 0 ≤ k ∧ k ≤ 1000000) (h1 : -1000 ≤ e.p ∧ e.p ≤ 1000) (h2 : -4294967296 - 1000 * k ≤ e.mp ∧ e.mp ≤ 4294967296 + 1000 * k) :
    (-1000 ≤ (evStep S d e x).p ∧ (evStep S d e x).p ≤ 1000) ∧ (-4294967296 - 1000 * (k + 1) ≤ (evStep S d e x).mp ∧ (evStep S d e x).mp ≤ 4294967296 + 1000 * (k + 1)) := by
  have hn := F.n
  unfold evStep
  split
  · exact ⟨h1, by omega⟩
  split
  · exact ⟨by show -1000 ≤ x.n ∧ x.n ≤ 1000; omega, by show _ ≤ e.mp ∧ e.mp ≤ _; omega⟩
  split
  · refine ⟨h1, ?_⟩
    show _ ≤ wrap64 (e.mp + x.n) ∧ wrap64 (e.mp + x.n) ≤ _
    unfold wrap64; omega
  split
  · exact ⟨h1, by show _ ≤ e.mp ∧ e.mp ≤ _; omega⟩
  split
  · exact ⟨h1, by show _ ≤ e.mp ∧ e.mp ≤ _; omega⟩
  · exact ⟨h1, by omega⟩
theorem evAll_in {S : St} {d : Nat} : ∀ (l : List StN) (k : Int) (e : Evl), (∀ x ∈ l, StFine S x) → 0 ≤ k → k + l.length ≤ 1000000 → (-1000 ≤ e.p ∧ e.p ≤ 1000) → (-4294967296 - 1000 * k ≤ e.mp ∧ e.mp ≤ 4294967296 + 1000 * k) →
    (-1000 ≤ (l.foldl (evStep S d) e).p ∧ (l.foldl (evStep S d) e).p ≤ 1000) ∧ (-5294967296 ≤ (l.foldl (evStep S d) e).mp ∧ (l.foldl (evStep S d) e).mp ≤ 5294967296)
  | [], k, e, _, h0, hk, h1, h2 => ⟨h1, by simp only [List.foldl_nil]; simp at hk; omega⟩
  | x :: l, k, e, hl, h0, hk, h1, h2 => by
    simp only [List.length_cons] at hk
    obtain ⟨a, b⟩ := evStep_in (d := d) (hl x (by simp)) (by omega) h1 h2
    exact evAll_in l (k + 1) _ (fun y hy => hl y (by simp [hy])) (by omega) (by omega) a b
theorem power_le {S : St} (h : Right S) {a : Nat} (ha : a < S.objs.length) : powerN S a ≤ 1099511627776 := by
  have hl := h.many
  have h8 := h.zon.len_le (z := 8) (by decide)
  have hst := staticsN_len S
  obtain ⟨⟨o1, o2⟩, ⟨o3, o4⟩, _⟩ := h.o7 ha
  have hc := h.card ha
  obtain ⟨_, _, s3, s4, _⟩ := card_says (gt (rowAt S.objs a) 0).toNat (by omega)
  have s3' : -100 ≤ (kindN S a).pw := s3
  have s4' : (kindN S a).pw ≤ 100 := s4
  obtain ⟨q1, q2⟩ := evAll_in (d := a) (staticsN S) 0 (ev0 S a) (statics_fine h) (by omega) (by omega) (by show -1000 ≤ (kindN S a).pw ∧ (kindN S a).pw ≤ 1000; omega) (by show _ ≤ gt (rowAt S.objs a) 7 + gt (rowAt S.objs a) 8 ∧ gt (rowAt S.objs a) 7 + gt (rowAt S.objs a) 8 ≤ _; omega)
  have e : gt (shapeN S a) 0 = wrap64 ((evN S a).p + (evN S a).mp) := rfl
  have q1' : -1000 ≤ (evN S a).p ∧ (evN S a).p ≤ 1000 := q1
  have q2' : -5294967296 ≤ (evN S a).mp ∧ (evN S a).mp ≤ 5294967296 := q2
  unfold powerN
  split
  · rw [Int.toNat_natCast, e]; unfold wrap64; omega
  · omega
/-- Each hit is one of a right state. -/
theorem hits_in {S : St} (h : Right S) {r : List Int} (hr : r ∈ HitsN S) : ∃ (d : Nat) (t n : Int), r = [(d : Int), t, n] ∧ HitIn S d t n := by
  obtain ⟨h1, h2⟩ := List.mem_filter.1 hr
  obtain ⟨aa, ha, h3⟩ := List.mem_flatMap.1 h1
  have hca := attacks_creature (attackers_in ha)
  obtain ⟨c1, c2, _, _⟩ := creatureB_in hca
  obtain ⟨a, rfl⟩ := Int.eq_ofNat_of_zero_le c1
  have hal : a < S.objs.length := by omega
  have hpa := power_le h hal
  have nz : ∀ x y z : Int, nzB [x, y, z] = true → z ≠ 0 := fun x y z hz e => by
    subst e
    have : nzB [x, y, 0] = false := by show (!((0 : Int) == 0)) = false; simp
    rw [this] at hz; cases hz
  unfold hitsN at h3
  split at h3
  · obtain rfl := List.mem_singleton.1 h3
    have := nz _ _ _ h2
    exact ⟨a, _, _, rfl, hca, by have := (powerN_range S a).1; omega, hpa, .inl rfl⟩
  · simp only [List.mem_append] at h3
    rcases h3 with (h3 | h3) | h3
    · have key : ∀ k, k ≤ (blockersN S a).length → r ∈ (hitTo S a k).2 → ∃ (d : Nat) (t n : Int), r = [(d : Int), t, n] ∧ HitIn S d t n := by
        intro k
        induction k with
        | zero => intro _ h; simp [hitTo] at h
        | succ k ih =>
          intro hk h4
          simp only [hitTo, List.mem_append, List.mem_singleton] at h4
          rcases h4 with h4 | rfl
          · exact ih (by omega) h4
          · have hne := nz _ _ _ h2
            have hg := hitTo_range S a k
            have ht := takeN_range S a k _ hg.1
            have hcb : creatureB S (gt (blockersN S a) k) = true := blockers_in (a := a) (by rw [gt_eq _ _ (by omega)]; exact List.getElem_mem _)
            obtain ⟨b1, _, _, _⟩ := creatureB_in hcb
            obtain ⟨e, he⟩ := Int.eq_ofNat_of_zero_le b1
            exact ⟨a, _, _, rfl, hca, by omega, by omega, .inr ⟨e, by rw [he], by rw [← he]; exact hcb⟩⟩
      exact key _ (Nat.le_refl _) h3
    · split at h3
      · obtain rfl := List.mem_singleton.1 h3
        have hne := nz _ _ _ h2
        have hg := hitTo_range S a (blockersN S a).length
        exact ⟨a, _, _, rfl, hca, by omega, by omega, .inl rfl⟩
      · simp at h3
    · obtain ⟨bb, hb, rfl⟩ := List.mem_map.1 h3
      have hcb := blockers_in (List.mem_of_mem_take hb)
      obtain ⟨b1, b2, _, _⟩ := creatureB_in hcb
      obtain ⟨b, rfl⟩ := Int.eq_ofNat_of_zero_le b1
      have hne := nz _ _ _ h2
      exact ⟨b, _, _, rfl, hcb, by have := (powerN_range S b).1; omega, power_le h (by omega), .inr ⟨a, rfl, hca⟩⟩
/-- The first hits, done. -/
def Em.strikes (E : Em) (S : St) (rows : List (List Int)) : Em := rows.foldl (fun E r => E.strike S (gt r 0).toNat (gt r 1) (gt r 2)) E
theorem strikes_succ (E : Em) (S : St) (rows : List (List Int)) (k : Nat) (h : k < rows.length) : E.strikes S (rows.take (k + 1)) = (E.strikes S (rows.take k)).strike S (gt (rowAt rows k) 0).toNat (gt (rowAt rows k) 1) (gt (rowAt rows k) 2) := by
  have e : rows.take (k + 1) = rows.take k ++ [rowAt rows k] := by
    rw [List.take_succ_eq_append_getElem h, rowAt, List.getD_eq_getElem?_getD, List.getElem?_eq_getElem h]; rfl
  unfold Em.strikes
  rw [e, List.foldl_append]
  rfl
theorem Fi.strikes {S : St} {E : Em} (hS : Right S) (h : Fi S 0 E) (hc : 2 * (HitsN S).length ≤ 65536) : ∀ k, k ≤ (HitsN S).length → Fi S (2 * k) (E.strikes S ((HitsN S).take k))
  | 0, _ => h
  | k + 1, hk => by
    rw [strikes_succ E S _ k (by omega)]
    obtain ⟨d, t, n, hr, H⟩ := hits_in hS (r := rowAt (HitsN S) k) (rowAt_in _ _ (by omega))
    rw [hr]
    exact Fi.strike hS (Fi.strikes hS h hc k (by omega)) (by omega) H
end Go.Proofs.YtgobdndjemicjaaGreatDoor
namespace Go.Proofs.YtgobdndjemicjaaGreatDoor
open Go Go.RowKit Go.Shelf

/-- A state's lists, in one value. -/
def listsV (V : SV) : Array Value := #[(V.list 0).val, (V.list 1).val, (V.list 2).val, (V.list 3).val, (V.list 4).val, (V.list 5).val, (V.list 6).val, (V.list 7).val, (V.list 8).val, (V.list 9).val, (V.list 10).val]
@[go_sem] theorem field_State1 (w : World) (V : SV) (num : Nat → Int) : (Instr.field 29 (.agg (stA V num)) 1).run Tryz.prog w = .ok (.agg (listsV V)) w := by kernel_rfl
@[go_sem] theorem index_lists8 (w : World) (V : SV) (q : IntKind) : (Instr.index 24 (.agg (listsV V)) (.int q 8)).run Tryz.prog w = .ok (V.list 8).val w := by
  obtain ⟨o, l⟩ := V
  unfold listsV
  dsimp only
  generalize l 8 = s
  cases s <;> kernel_rfl
/-- What stands on the field no longer attacks or blocks. -/
def Em.ends (E : Em) (l : List Int) : Em := l.foldl (fun E id => (E.setObj id 11 0).setObj id 12 0) E
theorem ends_succ (E : Em) (l : List Int) (k : Nat) (h : k < l.length) : E.ends (l.take (k + 1)) = ((E.ends (l.take k)).setObj (gt l k) 11 0).setObj (gt l k) 12 0 := by
  have e : l.take (k + 1) = l.take k ++ [gt l k] := by
    rw [List.take_succ_eq_append_getElem h, gt_eq _ _ h]
  unfold Em.ends
  rw [e, List.foldl_append]
  rfl
theorem Fi.ends {S : St} {m : Nat} {E : Em} (hS : Right S) (h : Fi S m E) (hc : m + 2 * (S.list 8).length ≤ 65536) : ∀ k, k ≤ (S.list 8).length → Fi S (m + 2 * k) (E.ends ((S.list 8).take k))
  | 0, _ => h
  | k + 1, hk => by
    rw [ends_succ E _ k (by omega)]
    obtain ⟨o0, o1, o3, _⟩ := hS.zon.ok 8 (by decide) (gt (S.list 8) k) (by rw [gt_eq _ _ (by omega)]; exact List.getElem_mem _)
    obtain ⟨d, hd⟩ := Int.eq_ofNat_of_zero_le o0
    rw [hd] at o1 o3 ⊢
    rw [Int.toNat_natCast] at o3
    have e1 : gt (objBounds S.objs.length) (11 * 2) = 0 ∧ gt (objBounds S.objs.length) (11 * 2 + 1) = 1 := ⟨rfl, rfl⟩
    have e2 : gt (objBounds S.objs.length) (12 * 2) = 0 ∧ gt (objBounds S.objs.length) (12 * 2 + 1) = S.objs.length := ⟨rfl, rfl⟩
    have h1 := ((Fi.ends hS h hc k (by omega)).set (by omega) d 11 0 (by omega) (by simpa using o3) (by omega) (by omega) (by omega)).1
    exact (h1.set (by omega) d 12 0 (by omega) (by simpa using o3) (by omega) (by omega) (by omega)).1.mono (by omega)
theorem st0_right : Right St0 := (checkN_zero St0).1 (by decide +kernel)
end Go.Proofs.YtgobdndjemicjaaGreatDoor
