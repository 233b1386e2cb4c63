/-
  The walks of slices.Sorted and of list's Deal.
-/
import Derived.Test.YtkbghjfagnjpoaaGreatDoorMColl
import Derived.Test.YtkbghjfagnjpoaaGreatDoorMMade
import Derived.Test.YtkbghjfagnjpoaaGreatDoorMUses
namespace Go.Proofs.YtkbghjfagnjpoaaGreatDoor
open Go Go.RowKit Go.Shelf Go.Sort

theorem collect_any (w : World) (s : Sl) (l : List Int) (R : Ints w s l) (hlen : l.length ≤ 1048576) (Bs : Nat) (hBs : w.cell? ⟨Bs, 0, none⟩ = some s.val) :
    Calls Tryz.prog 154 #[.func (.func 156) #[] #[.pointer (some ⟨Bs, 0, none⟩)]] w fun e w' => ∃ s' : Sl, e = .returned s'.val ∧ Ints w' s' l ∧ Room w' s' 1 ∧ (∀ b, s'.owns b → w.heap.size ≤ b ∧ b < w'.heap.size) ∧ Grow w w' := by
  have H := Lib.hid (appendSeq_any w s l R hlen Bs hBs)
  clear R hBs
  go_enter Tryz.func154, Tryz.ntmps154
  go_wp2_with (go_at_call 168; refine H.out.mono ?_; rintro e' w' ⟨s', rfl, hI, hR, hO, hG⟩; have HI := Lib.hid (And.intro hI (And.intro hR hO)); have HG := Lib.hid hG; clear hI hR hO hG)
  go_ret
  exact ⟨s', rfl, HI.out.1, HI.out.2.1, HI.out.2.2, HG.out⟩
theorem kept_growS {w : World} (os : Array Obj) (own : Nat → Prop) : Kept own w (Go.Sort.grow w os) := by
  refine ⟨rfl, rfl, rfl, by simp [Go.Sort.grow], fun k hk _ => ?_⟩
  exact heap_grow_old _ _ hk
theorem sort_any (w : World) (s : Sl) (l : List Int) (R : Ints w s l) (hlen : l.length ≤ 1048576) (hr : Room w s 1) :
    Calls Tryz.prog 155 #[s.val] w fun e w' => e = .returned (.tuple #[]) ∧ Ints w' s (l.mergeSort fun x y => decide (x ≤ y)) ∧ Kept s.owns w w' := by
  cases l with
  | nil =>
    have hn : s.n = 0 := R.len
    have h0 : ∃ p c, s.val = .slice p 0 c := by
      cases s with
      | nil => exact ⟨none, 0, rfl⟩
      | mk b o n c => simp only [Sl.n] at hn; subst hn; exact ⟨_, c, rfl⟩
    obtain ⟨p, c, hv⟩ := h0
    rw [hv]
    refine (AnyM.slices_Sort_int_none Tryz.sortInts p c w).mono ?_
    rintro e w' ⟨rfl, rfl⟩
    exact ⟨rfl, by simpa using R, Kept.refl _ _⟩
  | cons x l =>
    generalize hl : x :: l = zs at *
    have hpos : 0 < zs.length := by rw [← hl]; simp
    cases s with
    | nil => have := R.len; simp [Sl.n] at this; omega
    | mk b o n c =>
      have hn : n = zs.length := R.len
      subst hn
      have hH : Holds (.int .i64) w b o zs.toArray := fun j hj => by
        have hj : j < zs.length := by simpa using hj
        have h1 := R.cell j hj
        have h2 := (hr.there j (by have : zs.length ≤ c := R.cap; simp only [Sl.c]; omega)).2
        refine ⟨?_, h2⟩
        rw [show w.cell? ⟨b, o + j, none⟩ = some (I (gt zs j)) from h1, gt_eq _ _ hj, getElem!_pos _ j (by simpa using hj)]; rfl
      have hb : b < w.heap.size := (cell_blk (R.cell 0 hpos)).1
      refine (AnyM.slices_Sort_int Tryz.sortInts b o c zs w hH hb (by omega)).mono ?_
      rintro e w' ⟨rfl, q, os, rfl⟩
      have hms : (zs.mergeSort fun x y => decide (x ≤ y)).length = zs.length := List.length_mergeSort _
      generalize zs.mergeSort (fun x y => decide (x ≤ y)) = ms at *
      have hK := kept_putRow (Value.int .i64) w q b o ms.toArray
      have hG := kept_growS (w := Go.Sort.putRow (Value.int .i64) (Go.Sort.ahead w q) b o ms.toArray) os (fun _ => False)
      refine ⟨rfl, ⟨hms.symm, R.cap, fun j hj => ?_⟩, hK.trans hG (fun _ _ h => h.elim)⟩
      have hsz : ms.toArray.size = zs.toArray.size := by simp [hms]
      have h1 := cell?_putRow (Value.int .i64) (Go.Sort.ahead w q) b o zs.toArray ms.toArray hH hsz j (by simpa using hj)
      simp only [Sl.b, Sl.o]
      rw [hG.cell b (o + j) (cell_blk h1).1 (fun h => h), h1, getElem!_pos _ j (by simpa using hj)]
      simp [gt, hj]
theorem sorted_any (w : World) (s : Sl) (l : List Int) (R : Ints w s l) (hlen : l.length ≤ 1048576) (Bs : Nat) (hBs : w.cell? ⟨Bs, 0, none⟩ = some s.val) :
    Calls Tryz.prog 123 #[.func (.func 156) #[] #[.pointer (some ⟨Bs, 0, none⟩)]] w fun e w' => ∃ s' : Sl, e = .returned s'.val ∧ Ints w' s' (l.mergeSort fun x y => decide (x ≤ y)) ∧ (∀ b, s'.owns b → w.heap.size ≤ b ∧ b < w'.heap.size) ∧ Grow w w' := by
  have H := Lib.hid (collect_any w s l R hlen Bs hBs)
  clear R hBs
  go_enter Tryz.func123, Tryz.ntmps123
  go_wp2_with (go_at_call 154; refine H.out.mono ?_; rintro e' w1 ⟨s', rfl, hI, hR, hO, hG⟩; have HI := Lib.hid hI; have HR := Lib.hid hR; have HO := Lib.hid hO; have HG := Lib.hid hG; clear hI hR hO hG)
  refine (sort_any w1 s' l HI.out hlen HR.out).mono ?_
  rintro e' w2 ⟨rfl, hI2, hK⟩
  have HI2 := Lib.hid hI2
  have HK := Lib.hid hK
  clear hI2 hK
  go_wp2_with fail
  go_ret
  exact ⟨s', rfl, HI2.out, fun b hb => ⟨(HO.out b hb).1, Nat.lt_of_lt_of_le (HO.out b hb).2 HK.out.size⟩, HK.out.grow_of HG.out (fun k hk => (HO.out k hk).1)⟩
theorem idL_len (n : Nat) : (idL n).length = n := by simp [idL]
theorem idL_at (n i : Nat) (h : i < n) : gt (idL n) i = i := by simp [idL, gt, h]
/-- What is dealt behind the first k. -/
theorem dealt_succ (l o : List Int) (k : Nat) (h : k < o.length) : dealt l (o.take (k + 1)) = dealt l (o.take k) ++ [gt l (gt o k).toNat] := by
  unfold dealt
  rw [List.take_succ_eq_append_getElem h, List.map_append, gt_eq _ _ h]
  rfl
set_option maxRecDepth 100000 in
set_option maxHeartbeats 4000000 in
theorem deal_any (w : World) (sl so : Sl) (l o : List Int) (RL : Ints w sl l) (RO : Ints w so o) (hl : l.length ≤ 1048576) (hp : o.Perm (idL l.length)) :
    Calls Tryz.prog 87 #[sl.val, so.val] w fun e w' => ∃ s' : Sl, e = .returned (.tuple #[s'.val, .nilIface]) ∧ Ints w' s' (dealt l o) ∧ (∀ b, s'.owns b → w.heap.size ≤ b ∧ b < w'.heap.size) ∧ Grow w w' := by
  have hol : o.length = l.length := by rw [hp.length_eq, idL_len]
  have hin : ∀ k, k < o.length → 0 ≤ gt o k ∧ gt o k < l.length := fun k hk => by
    have h1 := hp.mem_iff.1 (gt_mem o k hk)
    obtain ⟨i, hi, e⟩ := List.mem_map.1 (show gt o k ∈ (List.range l.length).map fun (i : Nat) => (i : Int) from h1)
    have := List.mem_range.1 hi
    omega
  have HSo := Lib.hid (fun W (g : Grow w W) Bs hBs => by have := sorted_any W so o (RO.grow g) (by omega) Bs hBs; rw [sort_range o l.length hp] at this; exact this)
  have hln := RL.len
  have hon := RO.len
  rw [hol] at hon
  have HRL := Lib.hid RL
  have HRO := Lib.hid RO
  have HIN := Lib.hid hin
  have HOL := Lib.hid hol
  have HV := Lib.hid (fun W => values_any so W)
  clear RL RO hp hin hol
  go_enter Tryz.func87, Tryz.ntmps87
  go_wp2_with (first | (go_at_call 124; refine (HV.out _).mono ?_; rintro e' w' ⟨rfl, rfl⟩) | (go_at_call 123; refine (HSo.out _ grI _ (by go_simp)).mono ?_; rintro e' w1 ⟨s1, rfl, hI1, hO1, hG1⟩; have HI1 := Lib.hid hI1; have HG1 := Lib.hid hG1; have hn1 := hI1.len; rw [idL_len] at hn1; clear hI1 hO1 hG1))
  have hGW : Grow w w1 := (grI : Grow w (w.alloc (.cells #[so.val] 23))).trans HG1.out
  have HGW := Lib.hid hGW
  clear hGW HG1
  go_loopw [17] (fun i wr => ∃ k : Nat, k ≤ l.length ∧ i = .int .i64 k ∧ wr = w1) (fun i _ => l.length - (intOf i).toNat)
  case atStart => exact ⟨0, by omega, rfl, by first | rfl | trivial⟩
  case round =>
    obtain ⟨k, hk, rfl, rfl⟩ := hrel
    by_cases hlt : k < l.length
    · obtain ⟨q1, q2⟩ := HI1.out.at k (by rw [idL_len]; exact hlt)
      rw [idL_at _ _ hlt] at q2
      go_wp2_with fail
      go_roundw
      case rel => exact ⟨k + 1, by omega, by go_num, by first | rfl | trivial⟩
      case measure => simp [intOf]; omega
    · go_wp2_with fail
      go_loopw [9, 35] (fun v i w2 => ∃ (k : Nat) (s : Sl), k ≤ l.length ∧ i = .int .i64 k ∧ v = s.val ∧ Made wr.heap.size w2 s 1 ((dealt l (o.take k)).map I) ∧ s.n ≤ k ∧ Grow wr w2) (fun _ i _ => l.length - (intOf i).toNat)
      case atStart => exact ⟨0, .nil, by omega, rfl, rfl, Made.nil _ _ _, by simp [Sl.n], grI⟩
      case round =>
        obtain ⟨k2, s, hk2, rfl, rfl, hM, hsn, hG⟩ := hrel
        obtain ⟨x, rfl⟩ := hG
        have HM := Lib.hid hM
        clear hM
        by_cases hlt2 : k2 < l.length
        · have hko : k2 < o.length := by rw [HOL.out]; exact hlt2
          obtain ⟨p1, p2⟩ := (HRO.out.grow (HGW.out.trans (show Grow wr (wr.plus x) from grI))).at k2 hko
          obtain ⟨i0, i1⟩ := HIN.out k2 hko
          have HDS := Lib.hid (dealt_succ l o k2 hko)
          generalize gt o k2 = id at *
          obtain ⟨a, rfl⟩ := Int.eq_ofNat_of_zero_le i0
          obtain ⟨r1, r2⟩ := (HRL.out.grow (HGW.out.trans (show Grow wr (wr.plus x) from grI))).at a (by omega)
          rw [Int.toNat_natCast] at HDS
          generalize gt l a = y at *
          go_wp2_with (at_builtin; refine wpList_made rfl _ _ 23 rfl 3 Tryz.t3 (.int .i64 0) 1 8 Tryz.underlying23 (by kernel_rfl) (by kernel_rfl) (by kernel_rfl) (by kernel_rfl) (by omega) rfl wr s (.mk _ 0 1 1) ((dealt l (o.take k2)).map I) [I y] rfl rfl (HM.out.grow grI) grI (one_intC _ _ _ (by go_simp; rfl)) (flat_one _) (flat_one [y]) (by simp only [Sl.n] at hsn ⊢; omega) ?_; intro s2 y2 c1 _ c3 _; have C := Lib.hid (And.intro c1 c3); clear c1 c3)
          go_roundw
          case rel => exact ⟨k2 + 1, s2, by omega, by go_num, rfl, by rw [HDS.out, List.map_append]; exact C.out.1.grow grI, by rw [C.out.2]; simp only [Sl.n] at hsn ⊢; omega, grI⟩
          case measure => simp [intOf]; omega
        · have hfin : k2 = o.length := by rw [HOL.out]; omega
          have HM2 := HM.out
          rw [hfin, List.take_length] at HM2
          have HM3 := Lib.hid HM2
          clear HM2 hfin
          go_wp2_with fail
          go_ret2
          exact ⟨s, rfl, HM3.out.cells.ints, fun b hb => ⟨Nat.le_trans HGW.out.size (HM3.out.own b hb).1, (HM3.out.own b hb).2⟩, HGW.out.trans grI⟩
end Go.Proofs.YtkbghjfagnjpoaaGreatDoor
