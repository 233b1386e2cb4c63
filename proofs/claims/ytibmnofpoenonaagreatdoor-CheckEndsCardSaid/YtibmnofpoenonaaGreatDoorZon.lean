/-
  What the reference asks of the lists: plain functions.
  When the lists are right: each object stands in one list, once, and in its own. The program's test and the reference's are this.
-/
import Derived.Test.YtibmnofpoenonaaGreatDoorCheck
namespace Go.Proofs.YtibmnofpoenonaaGreatDoor
open Go Go.RowKit

def idIn (S : St) (x : Int) : Bool := decide (0 ≤ x) && decide (x < S.objs.length)
def idsIn (S : St) (k : Nat) : Bool := (List.range k).all fun z => (S.list z).all (idIn S)
def cntTo (S : St) (id : Int) (k : Nat) : Nat := ((List.range k).map fun z => (S.list z).count id).sum
/-- Does it stand only in its own list? -/
def ownTo (S : St) (id : Int) (o : List Int) (k : Nat) : Bool := (List.range k).all fun z => (S.list z).all fun x => x != id || (z : Int) == gt o 3
def stand2 (o : List Int) : Bool := !(decide (gt o 3 < 8) && (gt o 1 != (gt o 3).tmod 2 || gt o 13 != 0) || gt o 3 == 8 && gt o 13 == 2)
def refObjB (S : St) (i : Nat) : Bool := ownTo S i (rowAt S.objs i) 11 && cntTo S i 11 == 1 && stand2 (rowAt S.objs i)
def refZonesB (S : St) : Bool := idsIn S 11 && (List.range S.objs.length).all (refObjB S)

theorem idsIn_succ (S : St) (k : Nat) : idsIn S (k + 1) = (idsIn S k && (S.list k).all (idIn S)) := by simp [idsIn, List.range_succ]
theorem idsIn_bad (S : St) (z n k : Nat) (hz : z < n) (hk : k < (S.list z).length) (h : idIn S (gt (S.list z) k) = false) : idsIn S n = false := by
  rw [idsIn, List.all_eq_false]
  refine ⟨z, List.mem_range.2 hz, ?_⟩
  rw [Bool.not_eq_true, List.all_eq_false]
  exact ⟨gt (S.list z) k, by rw [gt_eq _ _ hk]; exact List.getElem_mem hk, by simp [h]⟩
theorem all_take_succ (f : Int → Bool) (l : List Int) (k : Nat) (hk : k < l.length) : (l.take (k + 1)).all f = ((l.take k).all f && f (gt l k)) := by
  rw [take_snoc l k hk, List.all_append]; simp

theorem cntTo_succ (S : St) (id : Int) (k : Nat) : cntTo S id (k + 1) = cntTo S id k + (S.list k).count id := by simp [cntTo, List.range_succ]
theorem cntTo_le (S : St) (hS : Small S) (id : Int) : ∀ k, k ≤ 11 → cntTo S id k ≤ k * 1048576
  | 0, _ => by simp [cntTo]
  | k + 1, h => by
    have h1 := cntTo_le S hS id k (by omega)
    have h2 := hS.list k (by omega)
    have h3 : (S.list k).count id ≤ (S.list k).length := List.count_le_length
    rw [cntTo_succ]; omega
theorem ownTo_succ (S : St) (id : Int) (o : List Int) (k : Nat) : ownTo S id o (k + 1) = (ownTo S id o k && (S.list k).all fun x => x != id || (k : Int) == gt o 3) := by simp [ownTo, List.range_succ]
theorem ownTo_bad (S : St) (id : Int) (o : List Int) (z n k : Nat) (hz : z < n) (hk : k < (S.list z).length) (h : gt (S.list z) k = id) (h3 : ¬ (z : Int) = gt o 3) : ownTo S id o n = false := by
  rw [ownTo, List.all_eq_false]
  refine ⟨z, List.mem_range.2 hz, ?_⟩
  rw [Bool.not_eq_true, List.all_eq_false]
  exact ⟨gt (S.list z) k, by rw [gt_eq _ _ hk]; exact List.getElem_mem hk, by simp [h, h3]⟩
theorem count_take_succ (l : List Int) (k : Nat) (hk : k < l.length) (x : Int) : (l.take (k + 1)).count x = (l.take k).count x + if gt l k = x then 1 else 0 := by
  rw [take_snoc l k hk, List.count_append, List.count_singleton]
  congr 1
  by_cases e : gt l k = x
  · rw [if_pos e, if_pos (by simp [e])]
  · rw [if_neg e, if_neg (by simp [e])]

end Go.Proofs.YtibmnofpoenonaaGreatDoor
namespace Go.Proofs.YtibmnofpoenonaaGreatDoor
open Go Go.RowKit

def OkAt (S : St) (z : Nat) (x : Int) : Prop := 0 ≤ x ∧ x < S.objs.length ∧ gt (rowAt S.objs x.toNat) 3 = z ∧ standsB (rowAt S.objs x.toNat) z = true
/-- Each object stands in one list, once, and in its own. -/
structure Zon (S : St) : Prop where
  ok : ∀ z, z < 11 → ∀ x ∈ S.list z, OkAt S z x
  once : ∀ id : Nat, id < S.objs.length → cntTo S id 11 = 1

/-- All lists, one behind the other. -/
def allTo (S : St) (k : Nat) : List Int := (List.range k).flatMap S.list
theorem allTo_succ (S : St) (k : Nat) : allTo S (k + 1) = allTo S k ++ S.list k := by simp [allTo, List.range_succ]
theorem mem_allTo (S : St) (k : Nat) (x : Int) : x ∈ allTo S k ↔ ∃ z, z < k ∧ x ∈ S.list z := by simp [allTo]
theorem cnt_allTo (S : St) (x : Int) : ∀ k, cntTo S x k = (allTo S k).count x
  | 0 => rfl
  | k + 1 => by rw [cntTo_succ, allTo_succ, List.count_append, cnt_allTo S x k]

structure Seen (S : St) (V : List Int) (p : List Bool × Nat) : Prop where
  many : p.2 = V.length
  len : p.1.length = S.objs.length
  nodup : V.Nodup
  mem : ∀ i : Nat, gtb p.1 i = true ↔ (i : Int) ∈ V
theorem gtb_set (l : List Bool) (i j : Nat) (h : i < l.length) : gtb (l.set i true) j = if i = j then true else gtb l j := by
  unfold gtb List.getD
  rw [List.getElem?_set]
  by_cases e : i = j
  · subst e; rw [if_pos rfl, if_pos h, if_pos rfl]; rfl
  · rw [if_neg e, if_neg e]
theorem Seen.push {S : St} {V : List Int} {p : List Bool × Nat} {x : Int} (h : Seen S V p) (h0 : 0 ≤ x) (h1 : x < S.objs.length) (hx : x ∉ V) : Seen S (V ++ [x]) (p.1.set x.toNat true, p.2 + 1) := by
  have hl := h.len
  refine ⟨by simp [h.many], by simp [hl], ?_, fun i => ?_⟩
  · rw [List.nodup_append]
    refine ⟨h.nodup, by simp, ?_⟩
    intro a ha b hb
    rw [List.mem_singleton] at hb
    subst hb
    intro e; subst e; exact hx ha
  · rw [gtb_set _ _ _ (by omega), List.mem_append, List.mem_singleton, ← h.mem i]
    by_cases e : x.toNat = i
    · rw [if_pos e]; simp; right; omega
    · rw [if_neg e]
      constructor
      · intro h; exact Or.inl h
      · rintro (h | h)
        · exact h
        · omega
theorem zstep_ok {S : St} {V : List Int} {p : List Bool × Nat} {z : Nat} {x : Int} (h : Seen S V p) (hok : OkAt S z x) (hx : x ∉ V) : zstep S z p x = some (p.1.set x.toNat true, p.2 + 1) := by
  obtain ⟨a, b, c, d⟩ := hok
  rw [zstep, if_neg (by omega), if_neg, if_neg (by simp [c]), if_neg (by simp [d])]
  rw [h.mem, Int.toNat_of_nonneg a]; exact hx
theorem zstep_inv {S : St} {V : List Int} {p q : List Bool × Nat} {z : Nat} {x : Int} (h : Seen S V p) (hs : zstep S z p x = some q) : OkAt S z x ∧ x ∉ V ∧ q = (p.1.set x.toNat true, p.2 + 1) := by
  unfold zstep at hs
  by_cases c1 : x < 0 ∨ (S.objs.length : Int) ≤ x
  · rw [if_pos c1] at hs; cases hs
  rw [if_neg c1] at hs
  by_cases c2 : gtb p.1 x.toNat = true
  · rw [if_pos c2] at hs; cases hs
  rw [if_neg c2] at hs
  by_cases c3 : ¬ gt (rowAt S.objs x.toNat) 3 = z
  · rw [if_pos c3] at hs; cases hs
  rw [if_neg c3] at hs
  by_cases c4 : standsB (rowAt S.objs x.toNat) z = false
  · rw [if_pos c4] at hs; cases hs
  rw [if_neg c4] at hs
  refine ⟨⟨by omega, by omega, by simpa using c3, by simpa using c4⟩, ?_, (Option.some.inj hs).symm⟩
  intro hx
  apply c2
  rw [h.mem, Int.toNat_of_nonneg (by omega)]; exact hx
theorem zlist_ok {S : St} {z : Nat} : ∀ (l V : List Int) (p : List Bool × Nat), Seen S V p → (∀ x ∈ l, OkAt S z x) → (V ++ l).Nodup → ∃ q, zlist S z p l = some q ∧ Seen S (V ++ l) q
  | [], V, p, h, _, _ => ⟨p, rfl, by simpa using h⟩
  | x :: l, V, p, h, hok, hn => by
    have hx : x ∉ V := by
      rw [List.nodup_append] at hn
      intro hm
      exact hn.2.2 x hm x (by simp) rfl
    have hx0 := hok x (by simp)
    obtain ⟨q, e, hq⟩ := zlist_ok l (V ++ [x]) _ (h.push hx0.1 hx0.2.1 hx) (fun y hy => hok y (by simp [hy])) (by simpa using hn)
    refine ⟨q, ?_, by simpa using hq⟩
    unfold zlist at *
    rw [List.foldlM_cons, zstep_ok h hx0 hx]
    exact e
theorem zlist_inv {S : St} {z : Nat} : ∀ (l V : List Int) (p q : List Bool × Nat), Seen S V p → zlist S z p l = some q → (∀ x ∈ l, OkAt S z x) ∧ Seen S (V ++ l) q
  | [], V, p, q, h, e => by
    have : p = q := Option.some.inj e
    subst this
    exact ⟨fun x hx => (by cases hx), by simpa using h⟩
  | x :: l, V, p, q, h, e => by
    unfold zlist at e
    rw [List.foldlM_cons] at e
    cases hs : zstep S z p x with
    | none => rw [hs] at e; cases e
    | some r =>
      rw [hs] at e
      obtain ⟨h1, h2, rfl⟩ := zstep_inv h hs
      obtain ⟨h3, h4⟩ := zlist_inv l (V ++ [x]) _ q (h.push h1.1 h1.2.1 h2) e
      refine ⟨fun y hy => ?_, by simpa using h4⟩
      rcases List.mem_cons.1 hy with rfl | hy
      · exact h1
      · exact h3 y hy
theorem seen0 (S : St) : Seen S [] (List.replicate S.objs.length false, 0) := by
  refine ⟨rfl, by simp, by simp, fun i => ?_⟩
  simp only [gtb, List.getD, List.getElem?_replicate]
  by_cases h : i < S.objs.length <;> simp [h]
theorem zTo_ok {S : St} : ∀ k, (∀ z, z < k → ∀ x ∈ S.list z, OkAt S z x) → (allTo S k).Nodup → ∃ q, zTo S k = some q ∧ Seen S (allTo S k) q
  | 0, _, _ => ⟨_, rfl, seen0 S⟩
  | k + 1, hok, hn => by
    rw [allTo_succ] at hn
    obtain ⟨p, e, hp⟩ := zTo_ok k (fun z hz => hok z (by omega)) (List.nodup_append.1 hn).1
    obtain ⟨q, e2, hq⟩ := zlist_ok (S.list k) _ p hp (hok k (by omega)) hn
    exact ⟨q, by rw [zTo_succ e, e2], by rw [allTo_succ]; exact hq⟩
theorem zTo_inv {S : St} : ∀ k q, zTo S k = some q → (∀ z, z < k → ∀ x ∈ S.list z, OkAt S z x) ∧ Seen S (allTo S k) q
  | 0, q, e => by
    have : (List.replicate S.objs.length false, 0) = q := Option.some.inj e
    subst this
    exact ⟨fun z hz => by omega, seen0 S⟩
  | k + 1, q, e => by
    cases hs : zTo S k with
    | none => rw [zTo_none (Nat.le_succ k) hs] at e; cases e
    | some p =>
      rw [zTo_succ hs] at e
      obtain ⟨h1, h2⟩ := zTo_inv k p hs
      obtain ⟨h3, h4⟩ := zlist_inv (S.list k) _ p q h2 e
      refine ⟨fun z hz x hx => ?_, by rw [allTo_succ]; exact h4⟩
      by_cases e : z = k
      · subst e; exact h3 x hx
      · exact h1 z (by omega) x hx

theorem len_le_of_sub {α : Type} [BEq α] [LawfulBEq α] : ∀ (l L : List α), l.Nodup → (∀ x ∈ l, x ∈ L) → l.length ≤ L.length
  | [], L, _, _ => Nat.zero_le _
  | x :: l, L, hn, hs => by
    have hx := hs x (by simp)
    have hn' := List.nodup_cons.1 hn
    have := len_le_of_sub l (L.erase x) hn'.2 (fun y hy => (List.mem_erase_of_ne (by rintro rfl; exact hn'.1 hy)).2 (hs y (by simp [hy])))
    rw [List.length_erase_of_mem hx] at this
    have := List.length_pos_of_mem hx
    simp; omega
theorem ints_nodup (n : Nat) : ((List.range n).map (Int.ofNat)).Nodup := by
  rw [List.nodup_iff_pairwise_ne, List.pairwise_map]
  exact (List.nodup_range (n := n)).imp (fun h e => h (Int.ofNat.inj e))
/-- So many numbers below n, none twice: each stands there. -/
theorem mem_of_full (l : List Int) (n : Nat) (hn : l.Nodup) (hb : ∀ x ∈ l, 0 ≤ x ∧ x < n) (hl : l.length = n) (id : Nat) (hid : id < n) : (id : Int) ∈ l := by
  by_cases h : (id : Int) ∈ l
  · exact h
  exfalso
  have h1 := len_le_of_sub ((id : Int) :: l) ((List.range n).map Int.ofNat) (List.nodup_cons.2 ⟨h, hn⟩) (fun x hx => by
    rw [List.mem_map]
    rcases List.mem_cons.1 hx with rfl | hx
    · exact ⟨id, List.mem_range.2 hid, rfl⟩
    · obtain ⟨a, b⟩ := hb x hx
      exact ⟨x.toNat, List.mem_range.2 (by omega), by simp; omega⟩)
  simp at h1; omega

theorem zonesB_iff (S : St) : zonesB S = true ↔ Zon S := by
  unfold zonesB
  constructor
  · intro h
    cases hs : zTo S 11 with
    | none => rw [hs] at h; cases h
    | some p =>
      rw [hs] at h
      obtain ⟨h1, h2⟩ := zTo_inv 11 p hs
      have hl : (allTo S 11).length = S.objs.length := by
        have : (p.2 : Int) = S.objs.length := by simpa using h
        rw [← h2.many]; omega
      refine ⟨h1, fun id hid => ?_⟩
      rw [cnt_allTo]
      have hm := mem_of_full (allTo S 11) S.objs.length h2.nodup (fun x hx => by
        obtain ⟨z, hz, hx⟩ := (mem_allTo S 11 x).1 hx
        exact ⟨(h1 z hz x hx).1, (h1 z hz x hx).2.1⟩) hl id hid
      have h3 := List.nodup_iff_count.1 h2.nodup (id : Int)
      have h4 := List.count_pos_iff.2 hm
      omega
  · intro h
    have hn : (allTo S 11).Nodup := by
      rw [List.nodup_iff_count]
      intro x
      by_cases hx : x ∈ allTo S 11
      · obtain ⟨z, hz, hx'⟩ := (mem_allTo S 11 x).1 hx
        obtain ⟨a, b, _⟩ := h.ok z hz x hx'
        have := h.once x.toNat (by omega)
        rw [cnt_allTo, Int.toNat_of_nonneg a] at this
        omega
      · rw [List.count_eq_zero.2 hx]; omega
    obtain ⟨q, e, hq⟩ := zTo_ok 11 h.ok hn
    rw [e]
    show ((q.2 : Int) == S.objs.length) = true
    rw [hq.many]
    have h1 := len_le_of_sub (allTo S 11) ((List.range S.objs.length).map Int.ofNat) hn (fun x hx => by
      obtain ⟨z, hz, hx'⟩ := (mem_allTo S 11 x).1 hx
      obtain ⟨a, b, _⟩ := h.ok z hz x hx'
      rw [List.mem_map]
      exact ⟨x.toNat, List.mem_range.2 (by omega), by simp; omega⟩)
    have h2 := len_le_of_sub ((List.range S.objs.length).map Int.ofNat) (allTo S 11) (ints_nodup _) (fun x hx => by
      obtain ⟨i, hi, rfl⟩ := List.mem_map.1 hx
      have := h.once i (List.mem_range.1 hi)
      rw [cnt_allTo] at this
      exact List.count_pos_iff.1 (by show 0 < List.count (i : Int) _; omega))
    simp at h1 h2 ⊢
    omega

theorem stand2_of {o : List Int} {z : Nat} (hz : z < 11) (h3 : gt o 3 = z) : stand2 o = standsB o z := by
  unfold stand2 standsB
  rw [h3]
  by_cases h8 : z < 8
  · have ho : ownedB z = true := by simp [ownedB]; omega
    have hp : sidePl z = (z : Int) % 2 := by simp [sidePl, ho]
    have ht : (z : Int).tmod 2 = (z : Int) % 2 := by rw [Int.tmod_eq_emod_of_nonneg (by omega)]
    rw [if_pos ho, hp, ht]
    have h1 : decide ((z : Int) < 8) = true := by simp; omega
    have h2 : ((z : Int) == 8) = false := by simp; omega
    rw [h1, h2]
    cases e1 : (gt o 1 == (z : Int) % 2) <;> cases e2 : (gt o 13 == 0) <;> simp_all
  · have ho : ownedB z = false := by simp [ownedB]; omega
    rw [if_neg (by simp [ho])]
    have h1 : decide ((z : Int) < 8) = false := by simp; omega
    rw [h1]
    by_cases e : (z : Int) = 8
    · rw [if_pos e]; simp [e]; cases e2 : (gt o 13 == 2) <;> simp_all
    · rw [if_neg e]; simp [e]

theorem refZonesB_iff (S : St) : refZonesB S = true ↔ Zon S := by
  unfold refZonesB
  rw [Bool.and_eq_true]
  constructor
  · rintro ⟨h1, h2⟩
    have hin : ∀ z, z < 11 → ∀ x ∈ S.list z, 0 ≤ x ∧ x < S.objs.length := fun z hz x hx => by
      unfold idsIn at h1
      rw [List.all_eq_true] at h1
      have := h1 z (List.mem_range.2 hz)
      rw [List.all_eq_true] at this
      have := this x hx
      simpa [idIn] using this
    have hob : ∀ id : Nat, id < S.objs.length → ownTo S id (rowAt S.objs id) 11 = true ∧ cntTo S id 11 = 1 ∧ stand2 (rowAt S.objs id) = true := fun id hid => by
      rw [List.all_eq_true] at h2
      have := h2 id (List.mem_range.2 hid)
      unfold refObjB at this
      simp only [Bool.and_eq_true, beq_iff_eq] at this
      exact ⟨this.1.1, this.1.2, this.2⟩
    refine ⟨fun z hz x hx => ?_, fun id hid => (hob id hid).2.1⟩
    obtain ⟨a, b⟩ := hin z hz x hx
    obtain ⟨d, rfl⟩ := Int.eq_ofNat_of_zero_le a
    obtain ⟨o1, o2, o3⟩ := hob d (by omega)
    have hz3 : gt (rowAt S.objs d) 3 = z := by
      unfold ownTo at o1
      rw [List.all_eq_true] at o1
      have := o1 z (List.mem_range.2 hz)
      rw [List.all_eq_true] at this
      have := this _ hx
      simp at this
      omega
    exact ⟨a, b, by simpa using hz3, by rw [Int.toNat_natCast, ← stand2_of hz hz3]; exact o3⟩
  · intro h
    refine ⟨?_, ?_⟩
    · unfold idsIn
      rw [List.all_eq_true]
      intro z hz
      rw [List.all_eq_true]
      intro x hx
      obtain ⟨a, b, _⟩ := h.ok z (List.mem_range.1 hz) x hx
      simp [idIn, a, b]
    · rw [List.all_eq_true]
      intro id hid
      have hid := List.mem_range.1 hid
      have h1 := h.once id hid
      have hm : (id : Int) ∈ allTo S 11 := by rw [cnt_allTo] at h1; exact List.count_pos_iff.1 (by omega)
      obtain ⟨z, hz, hx⟩ := (mem_allTo S 11 _).1 hm
      obtain ⟨_, _, c, d⟩ := h.ok z hz _ hx
      rw [Int.toNat_natCast] at c d
      unfold refObjB
      rw [stand2_of hz c, d, h1]
      have : ownTo S id (rowAt S.objs id) 11 = true := by
        unfold ownTo
        rw [List.all_eq_true]
        intro y hy
        rw [List.all_eq_true]
        intro x hx2
        by_cases e : x = id
        · subst e
          obtain ⟨_, _, c2, _⟩ := h.ok y (List.mem_range.1 hy) _ hx2
          rw [Int.toNat_natCast] at c2
          simp [c2]
        · simp [e]
      rw [this]; rfl
theorem zones_same (S : St) : refZonesB S = zonesB S := by
  rw [Bool.eq_iff_iff, refZonesB_iff, zonesB_iff]
end Go.Proofs.YtibmnofpoenonaaGreatDoor
