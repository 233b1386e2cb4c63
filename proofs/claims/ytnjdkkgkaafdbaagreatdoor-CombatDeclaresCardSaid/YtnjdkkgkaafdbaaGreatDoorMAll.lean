/-
  All hits of a right state.
  An attacker's hits are its power together: plain.
  The chapter's example of a fight.
-/
import Derived.Test.YtnjdkkgkaafdbaaGreatDoorMHits
import Derived.Test.YtnjdkkgkaafdbaaGreatDoorMDel
import Derived.Test.YtnjdkkgkaafdbaaGreatDoorMKept
namespace Go.Proofs.YtnjdkkgkaafdbaaGreatDoor
open Go Go.RowKit

/-- All hits, in their order. -/
def rawTo (S : St) (k : Nat) : List (List Int) := ((attackersN S).take k).flatMap (hitsN S)
def rawN (S : St) : List (List Int) := (attackersN S).flatMap (hitsN S)
/-- The hits of a right state. -/
def HitsN (S : St) : List (List Int) := (rawN S).filter nzB
theorem rawTo_succ (S : St) (k : Nat) (h : k < (attackersN S).length) : rawTo S (k + 1) = rawTo S k ++ hitsN S (gt (attackersN S) k) := by
  unfold rawTo
  rw [take_snoc _ _ h, List.flatMap_append]
  simp
theorem hitsN_len (S : St) (a : Int) : (hitsN S a).length ≤ 2 * (blockersN S a).length + 1 := by
  unfold hitsN
  split
  · simp
  · rw [List.length_append, List.length_append, (hitTo_len S a _).1]
    have : (backTo S a (blockersN S a).length).length = (blockersN S a).length := by simp [backTo]
    rw [this]
    split <;> simp <;> omega
theorem rawTo_len (S : St) (hl : (S.list 8).length ≤ 1000) (k : Nat) : k ≤ (attackersN S).length → (rawTo S k).length ≤ k * 2001 := by
  induction k with
  | zero => intro _; simp [rawTo]
  | succ k ih =>
    intro h
    rw [rawTo_succ S k (by omega), List.length_append]
    have h1 := ih (by omega)
    have h2 := hitsN_len S (gt (attackersN S) k)
    have h3 : (blockersN S (gt (attackersN S) k)).length ≤ (S.list 8).length := List.length_filter_le _ _
    omega
theorem attackers_in {S : St} {a : Int} (h : a ∈ attackersN S) : attacksB S a = true := (List.mem_filter.1 h).2
theorem attacks_creature {S : St} {a : Int} (h : attacksB S a = true) : creatureB S a = true := by
  unfold attacksB at h
  rw [Bool.and_eq_true] at h
  exact h.1
theorem rawTo_wid (S : St) (k : Nat) : ∀ r, r ∈ rawTo S k → r.length = 3 := by
  intro r h
  obtain ⟨a, _, ha⟩ := List.mem_flatMap.1 h
  exact hitsN_wid S a r ha
theorem Made.rows3 {base : Nat} {w : World} {s : Sl} {l : List (List Int)} (h : Made base w s 3 (flat l)) (hw : ∀ r, r ∈ l → r.length = 3) : Rows' w s 3 l := h.cells.rows3 hw
set_option maxRecDepth 100000 in
set_option maxHeartbeats 2000000 in
theorem allHits_own (S : St) (V : SV) (w : World) (h : RS S V w) (hl : (S.list 8).length ≤ 1000) :
    Calls Tryz.prog 8 #[.agg (stA V S.num)] w fun e w' => ∃ s : Sl, e = .returned s.val ∧ Rows' w' s 3 (HitsN S) ∧ (∀ b, s.owns b → w.heap.size ≤ b) ∧ Grow w w' := by
  have hal : (attackersN S).length ≤ 1000 := Nat.le_trans (List.length_filter_le _ _) hl
  have HH := Lib.hid h
  have HL := Lib.hid hl
  clear h hl
  go_enter Tryz.func8, Tryz.ntmps8
  go_wp2_with (first | (go_at_call 32; refine ((HH.out.grow grI).check).mono ?_; rintro e w' ⟨rfl, nx, rfl⟩) | (go_at_call 11; refine (attackers_any S V _ (HH.out.grow grI)).mono ?_; rintro e' W1 ⟨sa, rfl, hI, hg⟩; have hbk : W1.blk w.heap.size = stA V S.num := (by rw [blk_grow hg (by rw [plus_size, alloc_size']; omega), blk_plus, if_pos (by rw [alloc_size']; omega), blk_alloc, if_pos rfl]); have hbl : w.heap.size < W1.heap.size := (by have := hg.size; rw [plus_size, alloc_size'] at this; omega); have hsa := hI.len; have HI := Lib.hid (And.intro hI (show Grow w W1 from Grow.trans grI hg)); clear hI hg))
  have HW := Lib.hid (HH.out.grow HI.out.2)
  go_loopw [3, 12] (fun v i wr => ∃ (k : Nat) (s : Sl), k ≤ (attackersN S).length ∧ i = .int .i64 k ∧ v = s.val ∧ Made W1.heap.size wr s 3 (flat (rawTo S k)) ∧ s.n ≤ k * 2001 ∧ Grow W1 wr) (fun _ i _ => (attackersN S).length - (intOf i).toNat)
  case atStart => exact ⟨0, .nil, by omega, rfl, rfl, Made.nil _ _ _, by simp [Sl.n], grI⟩
  case round =>
    obtain ⟨k, s, hk, rfl, rfl, hM, hsn, hG⟩ := hrel
    obtain ⟨x, rfl⟩ := hG
    have HM := Lib.hid hM
    clear hM
    by_cases hlt : k < (attackersN S).length
    · obtain ⟨hlb, hlc⟩ := HI.out.1.at k hlt
      have hcr := creatureB_in (attacks_creature (attackers_in (S := S) (a := gt (attackersN S) k) (by rw [gt_eq _ _ hlt]; exact List.getElem_mem hlt)))
      obtain ⟨c1, c2, _, _⟩ := hcr
      have HST := Lib.hid (rawTo_succ S k hlt)
      have HLN := Lib.hid (rawTo_len S HL.out (k + 1) (by omega))
      generalize gt (attackersN S) k = id at *
      obtain ⟨d, rfl⟩ := Int.eq_ofNat_of_zero_le c1
      have hd : d < S.objs.length := by omega
      have HHL := Lib.hid (hitsN_len S d)
      have HBL : Hid ((blockersN S d).length ≤ 1000) := Nat.le_trans (List.length_filter_le _ _) HL.out
      clear c1 c2
      go_wp2_with (first | (go_at_call 33; refine (hits_any S V _ (HW.out.grow grI) d hd).mono ?_; rintro e' w' ⟨sh, rfl, hr, nh, rfl⟩; (try simp only [drew_plus] at hr); (try simp only [plus_plus] at hr); have HSH := Lib.hid hr; have hshn := hr.len; clear hr) | (at_builtin; refine wpList_made rfl _ _ 32 rfl 40 Tryz.t40 (.agg (cellsOf [0, 0, 0])) 3 24 Tryz.underlying32 (by kernel_rfl) (by kernel_rfl) (by kernel_rfl) (by kernel_rfl) (by omega) rfl W1 s sh (flat (rawTo S k)) (flat (hitsN S d)) rfl rfl (HM.out.grow grI) grI (HSH.out.grow grI).cells (flat_ones _) (flat_ones _) (by have := HHL.out; have := HBL.out; omega) ?_; intro s2 y c1 _ c3 _; have C := Lib.hid (And.intro c1 c3); clear c1 c3))
      go_roundw
      case rel =>
        refine ⟨k + 1, s2, by omega, by go_num, rfl, by rw [HST.out, flat_append]; exact C.out.1.grow grI, ?_, grI⟩
        have h1 := C.out.2
        have h2 := HHL.out
        have h3 := HBL.out
        omega
      case measure => simp [intOf]; omega
    · have hkl : k = (attackersN S).length := by omega
      have hraw : rawTo S k = rawN S := by rw [hkl, rawTo, List.take_length]; rfl
      have HRW := Lib.hid hraw
      clear hraw
      have HRO : Hid (Rows' (W1.plus x) s 3 (rawN S)) := by
        rw [Hid, ← HRW.out]; exact HM.out.rows3 (rawTo_wid S k)
      have hrl : (rawN S).length ≤ 4194304 := by
        have := HRO.out.len
        omega
      go_wp2_with (go_at_call 34; refine (delete_any _ s (rawN S) (HRO.out.grow grI) (HM.out.room.grow grI) hrl).mono ?_; rintro e' W3 ⟨s3, rfl, hr3, hk3, ho3⟩; have HF := Lib.hid (And.intro (And.intro hr3 (show ∀ b, s3.owns b → w.heap.size ≤ b from fun b hb => Nat.le_trans HI.out.2.size (HM.out.own b (ho3 b hb)).1)) (show Grow w W3 from HI.out.2.trans (hk3.grow_of grI (fun b hb => (HM.out.own b hb).1)))); clear hr3 hk3 ho3)
      go_ret
      exact ⟨s3, rfl, HF.out.1.1, HF.out.1.2, HF.out.2⟩
theorem allHits_any (S : St) (V : SV) (w : World) (h : RS S V w) (hl : (S.list 8).length ≤ 1000) :
    Calls Tryz.prog 8 #[.agg (stA V S.num)] w fun e w' => ∃ s : Sl, e = .returned s.val ∧ Rows' w' s 3 (HitsN S) ∧ Grow w w' := by
  refine (allHits_own S V w h hl).mono ?_
  rintro e w' ⟨s, h1, h2, _, h3⟩
  exact ⟨s, h1, h2, h3⟩
end Go.Proofs.YtnjdkkgkaafdbaaGreatDoor
namespace Go.Proofs.YtnjdkkgkaafdbaaGreatDoor
open Go Go.RowKit

/-- Does a hit count: is it an attacker's that does not block? -/
def countsB (S : St) (r : List Int) : Bool := (gt (rowAt S.objs (gt r 0).toNat) 11 == 1) && (gt (rowAt S.objs (gt r 0).toNat) 12 == 0)
/-- What counts of an object's hits. -/
def sumOf (S : St) (id : Int) : List (List Int) → Int
  | [] => 0
  | r :: l => (if countsB S r = true ∧ gt r 0 = id then gt r 2 else 0) + sumOf S id l
theorem sumOf_append (S : St) (id : Int) (a b : List (List Int)) : sumOf S id (a ++ b) = sumOf S id a + sumOf S id b := by
  induction a with
  | nil => simp [sumOf]
  | cons r a ih => rw [List.cons_append, sumOf, sumOf, ih]; omega
theorem sumOf_filter (S : St) (id : Int) (l : List (List Int)) : sumOf S id (l.filter nzB) = sumOf S id l := by
  induction l with
  | nil => rfl
  | cons r l ih =>
    by_cases h : nzB r = true
    · rw [List.filter_cons_of_pos h, sumOf, sumOf, ih]
    · rw [List.filter_cons_of_neg h, ih, sumOf]
      have : gt r 2 = 0 := by simpa [nzB] using h
      rw [this]; simp
theorem sumOf_zero (S : St) (id : Int) (l : List (List Int)) (h : ∀ r, r ∈ l → ¬ (countsB S r = true ∧ gt r 0 = id)) : sumOf S id l = 0 := by
  induction l with
  | nil => rfl
  | cons r l ih => rw [sumOf, if_neg (h r (by simp)), ih (fun r hr => h r (by simp [hr]))]; rfl
theorem sumOf_own (S : St) (a : Int) (hc : (gt (rowAt S.objs a.toNat) 11 == 1) && (gt (rowAt S.objs a.toNat) 12 == 0)) : ∀ k, sumOf S a (hitTo S a k).2 = powerN S a - (hitTo S a k).1
  | 0 => by simp [hitTo, sumOf]
  | k + 1 => by
    have ih := sumOf_own S a hc k
    rw [hitTo]
    simp only
    rw [sumOf_append, ih, sumOf, sumOf, if_pos ⟨hc, rfl⟩]
    simp only [gt, List.getD]
    simp
    omega
theorem sumOf_back (S : St) (id : Int) (a : Int) (ha : 0 ≤ a) (k : Nat) : sumOf S id (backTo S a k) = 0 := by
  refine sumOf_zero S id _ fun r hr => ?_
  obtain ⟨b, hb, rfl⟩ := List.mem_map.1 hr
  have hb2 : b ∈ blockersN S a := List.mem_of_mem_take hb
  have := (List.mem_filter.1 hb2).2
  unfold blocksB at this
  rw [Bool.and_eq_true, beq_iff_eq] at this
  rintro ⟨h1, _⟩
  unfold countsB at h1
  have e : gt [b, a + 1, powerN S b] 0 = b := rfl
  rw [e, Bool.and_eq_true, beq_iff_eq, beq_iff_eq] at h1
  omega
theorem hitTo_from (S : St) (a : Int) : ∀ k r, r ∈ (hitTo S a k).2 → gt r 0 = a
  | 0, r, h => by simp [hitTo] at h
  | k + 1, r, h => by
    simp only [hitTo, List.mem_append, List.mem_singleton] at h
    rcases h with h | rfl
    · exact hitTo_from S a k r h
    · rfl
/-- Behind the last blocker nothing is left, but with Trample. -/
theorem hitTo_end (S : St) (a : Int) (ht : hasB S a 64 ≠ true) (hl : (blockersN S a).length ≠ 0) : (hitTo S a (blockersN S a).length).1 = 0 := by
  obtain ⟨n, hn⟩ : ∃ n, (blockersN S a).length = n + 1 := ⟨(blockersN S a).length - 1, by omega⟩
  rw [hn, hitTo]
  simp only
  rw [takeN, if_neg (by rw [hn]; rintro (h | h); exact ht h; simp at h)]
  omega
theorem sumOf_hits (S : St) (id a : Int) (ha : 0 ≤ a) (hc : (gt (rowAt S.objs id.toNat) 11 == 1) && (gt (rowAt S.objs id.toNat) 12 == 0)) : sumOf S id (hitsN S a) = if a = id then powerN S id else 0 := by
  by_cases e : a = id
  · subst e
    rw [if_pos rfl, hitsN]
    split
    · rw [sumOf, sumOf, if_pos ⟨hc, rfl⟩]
      simp [gt, List.getD]
    · rename_i hl
      rw [sumOf_append, sumOf_append, sumOf_back S a a ha, sumOf_own S a hc]
      split
      · rw [sumOf, sumOf, if_pos ⟨hc, rfl⟩]
        simp [gt, List.getD]
      · rename_i ht
        rw [hitTo_end S a ht hl, sumOf]; omega
  · rw [if_neg e, hitsN]
    split
    · exact sumOf_zero S id _ (fun r hr => by rw [List.mem_singleton.1 hr]; rintro ⟨_, h⟩; exact e h)
    · rw [sumOf_append, sumOf_append, sumOf_back S id a ha]
      rw [sumOf_zero S id (hitTo S a _).2 (fun r hr => by rintro ⟨_, h⟩; rw [hitTo_from S a _ r hr] at h; exact e h)]
      split
      · rw [sumOf_zero S id _ (fun r hr => by rw [List.mem_singleton.1 hr]; rintro ⟨_, h⟩; exact e h)]; rfl
      · rfl
theorem sumOf_raw (S : St) (id : Int) (hc : (gt (rowAt S.objs id.toNat) 11 == 1) && (gt (rowAt S.objs id.toNat) 12 == 0)) : ∀ (l : List Int), (∀ a, a ∈ l → 0 ≤ a) → sumOf S id (l.flatMap (hitsN S)) = l.count id * powerN S id
  | [], _ => by simp [sumOf]
  | a :: l, h => by
    rw [List.flatMap_cons, sumOf_append, sumOf_raw S id hc l (fun b hb => h b (by simp [hb])), sumOf_hits S id a (h a (by simp)) hc, List.count_cons]
    by_cases e : a = id
    · subst e
      rw [if_pos rfl, if_pos (by simp)]
      rw [Int.natCast_add, Int.add_mul]; omega
    · rw [if_neg e, if_neg (by simpa using e)]; simp
/-- An attacker stands there once. -/
theorem attackers_once {S : St} (hR : Right S) {id : Int} (h : id ∈ attackersN S) : (attackersN S).count id = 1 := by
  have hm := (List.mem_filter.1 h).1
  have ha := attackers_in h
  have h1 : (attackersN S).count id = (S.list 8).count id := List.count_filter ha
  obtain ⟨c1, c2, _, _⟩ := creatureB_in (attacks_creature ha)
  have h2 := hR.zon.once id.toNat (by omega)
  rw [Int.toNat_of_nonneg c1] at h2
  have h3 : 1 ≤ (S.list 8).count id := List.count_pos_iff.2 hm
  have h4 : ∀ n, 9 ≤ n → (S.list 8).count id ≤ cntTo S id n := by
    intro n hn
    induction n with
    | zero => omega
    | succ n ih =>
      rw [cntTo_succ]
      by_cases e : n = 8
      · subst e; omega
      · have := ih (by omega); omega
  have := h4 11 (by omega)
  omega
theorem sums_plain {S : St} (hR : Right S) {id : Int} (h : id ∈ attackersN S) (hb : gt (rowAt S.objs id.toNat) 12 = 0) : sumOf S id (HitsN S) = powerN S id := by
  have ha := attackers_in h
  have hc : ((gt (rowAt S.objs id.toNat) 11 == 1) && (gt (rowAt S.objs id.toNat) 12 == 0)) = true := by
    unfold attacksB at ha
    rw [Bool.and_eq_true] at ha
    rw [ha.2, hb]; rfl
  rw [HitsN, sumOf_filter, rawN, sumOf_raw S id hc _ (fun a ha => (creatureB_in (attacks_creature (attackers_in ha))).1), attackers_once hR h]
  omega
theorem hit_pos {S : St} {r : List Int} (h : r ∈ HitsN S) : 0 < gt r 2 ∧ creatureB S (gt r 0) = true := by
  obtain ⟨h1, h2⟩ := List.mem_filter.1 h
  have hn : gt r 2 ≠ 0 := by simpa [nzB] using h2
  obtain ⟨a, ha, hr⟩ := List.mem_flatMap.1 h1
  have hca := attacks_creature (attackers_in ha)
  have key : 0 ≤ gt r 2 ∧ creatureB S (gt r 0) = true := by
    have hown : ∀ k r, r ∈ (hitTo S a k).2 → 0 ≤ gt r 2 := by
      intro k
      induction k with
      | zero => intro r h; simp [hitTo] at h
      | succ k ih =>
        intro r h
        simp only [hitTo, List.mem_append, List.mem_singleton] at h
        rcases h with h | rfl
        · exact ih r h
        · exact (takeN_range S a k _ (hitTo_range S a k).1).1
    unfold hitsN at hr
    split at hr
    · rw [List.mem_singleton.1 hr]; exact ⟨(powerN_range S a).1, hca⟩
    · simp only [List.mem_append] at hr
      rcases hr with (hr | hr) | hr
      · exact ⟨hown _ r hr, by rw [hitTo_from S a _ r hr]; exact hca⟩
      · split at hr
        · rw [List.mem_singleton.1 hr]; exact ⟨(hitTo_range S a _).1, hca⟩
        · simp at hr
      · obtain ⟨b, hb, rfl⟩ := List.mem_map.1 hr
        exact ⟨(powerN_range S b).1, blockers_in (List.mem_of_mem_take hb)⟩
  exact ⟨by omega, key.2⟩
end Go.Proofs.YtnjdkkgkaafdbaaGreatDoor
namespace Go.Proofs.YtnjdkkgkaafdbaaGreatDoor
open Go Go.RowKit Go.Shelf

def caR0 : List Int := [116, 0, 0, 8, 0, 0, 0, 0, 0, 0, 64, 1, 0, 0, 0, 0, 0, 0]
def caR1 : List Int := [112, 1, 1, 8, 0, 0, 0, 0, 0, 0, 0, 0, 1, 0, 0, 0, 0, 0]
/-- The chapter's example. -/
def caS : St := { objs := [caR0, caR1], list := upd (fun _ => []) 8 [0, 1], num := fun _ => 0 }
theorem ca_right : Right caS := (checkN_zero caS).1 (by decide +kernel)
theorem ca_hits : HitsN caS = [[0, 2, 1], [0, -2, 2], [1, 1, 1]] := by decide +kernel
@[go_sem ↓] theorem build_caSt (ρ : Operand → Value) (dst : Option Tmp) (parts : Array (Nat × Operand)) (ty : TypeId) (pos : String) (after : Array Edge) (guard : Option (Nat × Bool)) :
    execOp ρ { dst, op := .build 29 parts, type := ty, pos, after, guard } = bdRow 29 (parts.map fun (i, x) => (i, ρ x)) := rfl
@[go_sem] theorem ca_build0 (w : World) : (bdRow 58 #[(0, .int .i64 116), (3, .int .i64 8), (10, .int .i64 64), (11, .int .i64 1)]).run Tryz.prog w = .ok (.value (.agg (cellsOf caR0))) w := by kernel_rfl
@[go_sem] theorem ca_build1 (w : World) : (bdRow 58 #[(0, .int .i64 112), (1, .int .i64 1), (2, .int .i64 1), (3, .int .i64 8), (12, .int .i64 1)]).run Tryz.prog w = .ok (.value (.agg (cellsOf caR1))) w := by kernel_rfl
/-- Its objects' cells. -/
def caCells : List Int := [116, 0, 0, 8, 0, 0, 0, 0, 0, 0, 64, 1, 0, 0, 0, 0, 0, 0, 112, 1, 1, 8, 0, 0, 0, 0, 0, 0, 0, 0, 1, 0, 0, 0, 0, 0]
set_option maxRecDepth 100000 in
@[go_sem] theorem ca_slice (w : World) : (bsRow 22 2 #[(0, .agg (cellsOf caR0)), (1, .agg (cellsOf caR1))]).run Tryz.prog w
    = .ok (.value (.slice (some ⟨w.heap.size, 0, none⟩) 2 2)) (w.alloc (.cells (cellsOf caCells) 58)) := by kernel_rfl
set_option maxRecDepth 100000 in
@[go_sem] theorem ca_state (w : World) (b : Nat) : (bdRow 29 #[(0, .slice (some ⟨b, 0, none⟩) 2 2)]).run Tryz.prog w = .ok (.value (.agg (stA ⟨.mk b 0 2 2, fun _ => .nil⟩ fun _ => 0))) w := by kernel_rfl
def caV0 (b : Nat) : SV := ⟨.mk b 0 2 2, fun _ => .nil⟩
/-- Its slices. -/
def caV (b : Nat) : SV := ⟨.mk b 0 2 2, upd (fun _ => .nil) 8 (.mk (b + 1 + 1) 0 2 2)⟩
@[go_sem] theorem run_storeX_caInts (w : World) (b o sb so n c : Nat) (h : (w.cell? ⟨b, o, none⟩).isSome = true) (hf : w.frozen? ⟨b, o, none⟩ = false) : (stRow 23 (.pointer (some ⟨b, o, none⟩)) (.slice (some ⟨sb, so, none⟩) n c)).run Tryz.prog w = .ok .skip (w.setCell ⟨b, o, none⟩ (.slice (some ⟨sb, so, none⟩) n c)) :=
  run_stSl w b o 23 (.mk sb so n c) (by kernel_rfl) h hf
@[go_sem] theorem ca_put (b : Nat) : (stA { objs := .mk b 0 2 2, list := fun _ => .nil } fun _ => 0).setIfInBounds 9 (.slice (some ⟨b + 1 + 1, 0, none⟩) 2 2) = stA (caV b) fun _ => 0 :=
  stA_setList (caV0 b) (fun _ => 0) 8 (.mk (b + 1 + 1) 0 2 2) (by omega)
theorem ca_rep (w : World) : RepSt (((w.alloc (.cells (cellsOf caCells) 58)).alloc (.cells (stA (caV w.heap.size) fun _ => 0) 29)).alloc (.cells (cellsOf [0, 1]) 3)) (caV w.heap.size) caS := by
  have hf : flat caS.objs = caCells.map I := rfl
  have h1 : ∀ i, (((w.alloc (.cells (cellsOf caCells) 58)).alloc (.cells (stA (caV w.heap.size) fun _ => 0) 29)).alloc (.cells (cellsOf [0, 1]) 3)).cell? ⟨w.heap.size, i, none⟩ = (cellsOf caCells)[i]? := fun i => by go_simp
  have hO : Cells (((w.alloc (.cells (cellsOf caCells) 58)).alloc (.cells (stA (caV w.heap.size) fun _ => 0) 29)).alloc (.cells (cellsOf [0, 1]) 3)) (.mk w.heap.size 0 2 2) 18 (caCells.map I) := by
    refine ⟨(by simp [caCells, Sl.n]), (by show 2 ≤ 2; omega), fun j u hu => ?_⟩
    show World.cell? _ ⟨w.heap.size, 0 + j, none⟩ = some u
    rw [h1, Nat.zero_add, ← hu]
    simp [cellsOf]
  rw [← hf] at hO
  refine ⟨hO.rows (by omega) (fun i hi => ?_), fun z hz => ?_⟩
  · have hi : i < 2 := hi
    have : i = 0 ∨ i = 1 := by omega
    rcases this with rfl | rfl <;> rfl
  · by_cases h8 : z = 8
    · subst h8
      have h1 : ∀ i, (((w.alloc (.cells (cellsOf caCells) 58)).alloc (.cells (stA (caV w.heap.size) fun _ => 0) 29)).alloc (.cells (cellsOf [0, 1]) 3)).cell? ⟨w.heap.size + 1 + 1, i, none⟩ = (cellsOf [0, 1])[i]? := fun i => by go_simp
      exact ⟨rfl, Nat.le_refl _, fun i hi => by
        show World.cell? _ ⟨w.heap.size + 1 + 1, 0 + i, none⟩ = _
        rw [h1, Nat.zero_add]
        exact cellsOf_get _ _ hi⟩
    · have e1 : (caV w.heap.size).list z = .nil := by simp [caV, upd, h8]
      have e2 : caS.list z = [] := by simp [caS, upd, h8]
      rw [e1, e2]; exact Ints.nil _
theorem ca_small : Small caS := ⟨by decide, fun z hz => by simp only [caS, upd]; (repeat' split) <;> simp⟩
set_option maxRecDepth 100000 in
set_option maxHeartbeats 2000000 in
theorem alive24_any (w : World) (GL : Glob w) : Calls Tryz.prog 6 #[] w fun e w' => e = .returned (.bool true) ∧ Grow w w' := by
  go_enter Tryz.func6, Tryz.ntmps6
  have HR := Lib.hid (fun W (g : Grow (((w.alloc (.cells (cellsOf caCells) 58)).alloc (.cells (stA (caV w.heap.size) fun _ => 0) 29)).alloc (.cells (cellsOf [0, 1]) 3)) W) => (show RS caS (caV w.heap.size) W from ⟨(ca_rep w).grow g, ca_right, ca_small, (GL.grow grI).grow g⟩))
  clear GL
  go_wp2_with (go_at_call 8; refine (allHits_any caS (caV w.heap.size) _ (HR.out _ grI) (by decide)).mono ?_; rintro e' W1 ⟨sh, rfl, hr, hg⟩; rw [ca_hits] at hr; have hsn := hr.len; obtain ⟨a1, a2, a3, a4, _⟩ := hr.at (by decide) 0 (by decide); obtain ⟨b1, b2, b3, b4, _⟩ := hr.at (by decide) 1 (by decide); obtain ⟨c1, c2, c3, c4, _⟩ := hr.at (by decide) 2 (by decide); have HG := Lib.hid (show Grow w W1 from Grow.trans grI hg); have a4' : sub (W1.blk sh.b) sh.o 3 = cellsOf [0, 2, 1] := a4; have b4' : sub (W1.blk sh.b) (sh.o + 3) 3 = cellsOf [0, -2, 2] := b4; have c4' : sub (W1.blk sh.b) (sh.o + 6) 3 = cellsOf [1, 1, 1] := c4; have s1 : sh.o + 3 ≤ (W1.blk sh.b).size := (by omega); have s2 : sh.o + 3 + 3 ≤ (W1.blk sh.b).size := (by omega); have s3 : sh.o + 6 ≤ (W1.blk sh.b).size := (by omega); have s4 : sh.o + 6 + 3 ≤ (W1.blk sh.b).size := (by omega); have s5 : sh.o + 9 ≤ (W1.blk sh.b).size := (by omega); clear hr hg a2 b2 c2 a3 b3 c3 a4 b4 c4 b1 c1)
  go_ret
  exact ⟨rfl, HG.out⟩
end Go.Proofs.YtnjdkkgkaafdbaaGreatDoor
