/-
  The hits of an attacker, and back.
-/
import Derived.Test.YtgobdndjemicjaaGreatDoorMComb
import Derived.Test.YtgobdndjemicjaaGreatDoorMHitR
namespace Go.Proofs.YtgobdndjemicjaaGreatDoor
open Go Go.RowKit

/-- How much of what is left the k-th blocker takes. -/
def takeN (S : St) (a : Int) (k : Nat) (left : Int) : Int :=
  if hasB S a 64 = true ∨ (k : Int) < (blockersN S a).length - 1 then min left (needsN S a (gt (blockersN S a) k)) else left
/-- What is left behind k blockers, and the hits. -/
def hitTo (S : St) (a : Int) : Nat → Int × List (List Int)
  | 0 => (powerN S a, [])
  | k + 1 => ((hitTo S a k).1 - takeN S a k (hitTo S a k).1, (hitTo S a k).2 ++ [[a, gt (blockersN S a) k + 1, takeN S a k (hitTo S a k).1]])
def backTo (S : St) (a : Int) (k : Nat) : List (List Int) := ((blockersN S a).take k).map fun b => [b, a + 1, powerN S b]
def foeN (S : St) : Int := S.num 19 - 2
/-- The hits of an attacker, and back. -/
def hitsN (S : St) (a : Int) : List (List Int) :=
  if (blockersN S a).length = 0 then [[a, foeN S, powerN S a]]
  else (hitTo S a (blockersN S a).length).2 ++ (if hasB S a 64 = true then [[a, foeN S, (hitTo S a (blockersN S a).length).1]] else []) ++ backTo S a (blockersN S a).length
theorem wrap64_le (x : Int) : wrap64 x ≤ 9223372036854775807 := by
  unfold wrap64; omega
theorem powerN_range (S : St) (a : Int) : 0 ≤ powerN S a ∧ powerN S a ≤ 9223372036854775807 := by
  unfold powerN
  split
  · have h : gt (shapeN S a.toNat) 0 ≤ 9223372036854775807 := wrap64_le _
    omega
  · omega
theorem needsN_pos (S : St) (a b : Int) : 0 ≤ needsN S a b := by
  unfold needsN
  split
  · omega
  · split <;> omega
theorem takeN_range (S : St) (a : Int) (k : Nat) (left : Int) (h : 0 ≤ left) : 0 ≤ takeN S a k left ∧ takeN S a k left ≤ left := by
  unfold takeN
  have := needsN_pos S a (gt (blockersN S a) k)
  split <;> omega
theorem hitTo_range (S : St) (a : Int) : ∀ k, 0 ≤ (hitTo S a k).1 ∧ (hitTo S a k).1 ≤ powerN S a
  | 0 => ⟨(powerN_range S a).1, Int.le_refl _⟩
  | k + 1 => by
    have h1 := hitTo_range S a k
    have h2 := takeN_range S a k _ h1.1
    show 0 ≤ (hitTo S a k).1 - takeN S a k (hitTo S a k).1 ∧ (hitTo S a k).1 - takeN S a k (hitTo S a k).1 ≤ powerN S a
    omega
theorem hitTo_len (S : St) (a : Int) : ∀ k, (hitTo S a k).2.length = k ∧ ∀ r, r ∈ (hitTo S a k).2 → r.length = 3
  | 0 => ⟨rfl, fun r h => by simp [hitTo] at h⟩
  | k + 1 => by
    obtain ⟨h1, h2⟩ := hitTo_len S a k
    refine ⟨by simp [hitTo, h1], fun r h => ?_⟩
    simp only [hitTo, List.mem_append, List.mem_singleton] at h
    rcases h with h | rfl
    · exact h2 r h
    · rfl
theorem hitsN_wid (S : St) (a : Int) : ∀ r, r ∈ hitsN S a → r.length = 3 := by
  intro r h
  unfold hitsN at h
  split at h
  · simp only [List.mem_singleton] at h; subst h; rfl
  · simp only [List.mem_append] at h
    rcases h with (h | h) | h
    · exact (hitTo_len S a _).2 r h
    · split at h
      · simp only [List.mem_singleton] at h; subst h; rfl
      · simp at h
    · obtain ⟨b, _, rfl⟩ := List.mem_map.1 h; rfl
theorem backTo_succ (S : St) (a : Int) (k : Nat) (h : k < (blockersN S a).length) : backTo S a (k + 1) = backTo S a k ++ [[gt (blockersN S a) k, a + 1, powerN S (gt (blockersN S a) k)]] := by
  unfold backTo
  rw [take_snoc _ _ h, List.map_append]; rfl
theorem blockers_in {S : St} {a b : Int} (h : b ∈ blockersN S a) : creatureB S b = true := by
  have := (List.mem_filter.1 h).2
  unfold blocksB at this
  rw [Bool.and_eq_true] at this
  exact this.1
set_option maxRecDepth 100000 in
set_option maxHeartbeats 1000000 in
theorem hits_any (S : St) (V : SV) (w : World) (h : RS S V w) (a : Nat) (ha : a < S.objs.length) :
    Calls Tryz.prog 216 #[.agg (stA V S.num), .int .i64 (a : Int)] w fun e w' => ∃ s : Sl, e = .returned s.val ∧ Rows' w' s 3 (hitsN S a) ∧ Grow w w' := by
  have hSO := h.small.objs
  have hg19 : 0 ≤ S.num 19 ∧ S.num 19 ≤ 1 := h.right.active
  have HH := Lib.hid h
  clear h
  obtain ⟨k0, k1⟩ := hg19
  go_enter Tryz.func216, Tryz.ntmps216
  go_wp2_with (go_at_call 53; refine (foe_any _ (S.num 19) k0 k1).mono ?_; rintro e w' ⟨rfl, nx, rfl⟩)
  rename (Act → World → Prop) => K
  rename (∀ a w, _ → _) => hK
  have key : ∀ (W0 : World) (sb : Sl), RS S V W0 → W0.blk w.heap.size = stA V S.num → w.heap.size < W0.heap.size → Ints W0 sb (blockersN S a) → Grow w W0 →
      K { tmps := #[.agg (stA V S.num), .int .i64 (a : Int), .pointer (some ⟨w.heap.size, 0, none⟩), undef, .slice none 0 0, (.int .i64 (-1 - (1 - S.num 19))), .int .i64 (powerN S a), sb.val, undef, undef, undef, undef, undef, undef, undef, .pointer (some ⟨w.heap.size, 30, none⟩), .pointer (some ⟨w.heap.size, 31, none⟩), I (S.num 19), .int .i64 (1 - S.num 19), (.int .i64 (-1 - (1 - S.num 19))), .agg (stA V S.num), .int .i64 (a : Int), .int .i64 (powerN S a), .agg (stA V S.num), .int .i64 (a : Int), sb.val, undef, undef, undef, undef, undef, undef, undef, undef, undef, undef, undef, undef, undef, undef, undef, undef, undef, undef, undef, undef, undef, undef, undef, undef, undef, undef, undef, undef, undef, undef, undef, undef, undef, undef, undef, undef, undef, undef, undef, undef, undef, undef, undef, undef, undef, undef, undef, undef, undef, undef, undef, undef, undef, undef, undef, undef, undef, undef, undef, undef, undef, undef, undef, undef, undef, undef, undef, undef, undef, undef, undef], defers := [] } W0 := by
    intro W0 sb h0 hblk hlt0 hI hg0
    have HH0 := Lib.hid h0
    have HG0 := Lib.hid hg0
    have hsn := hI.len
    have hll : (blockersN S a).length ≤ 1048576 := Nat.le_trans (List.length_filter_le _ _) (HH0.out.small.list 8 (by decide))
    clear h0 hg0
    refine hK _ _ ?_
    clear hK K nx
    obtain ⟨L, hL⟩ : ∃ L, blockersN S a = L := ⟨_, rfl⟩
    rw [hL] at hI hsn hll
    have HL := Lib.hid hL
    clear hL
    by_cases hL0 : L.length = 0
    · have HLF : Hid (hitsN S a = [[(a : Int), -1 - (1 - S.num 19), powerN S a]]) := by
        rw [Hid, hitsN, HL.out, if_pos hL0, show foeN S = -1 - (1 - S.num 19) by unfold foeN; omega]
      go_wp2_with fail
      go_ret
      refine ⟨.mk W0.heap.size 0 1 1, rfl, ?_, HG0.out.trans grI⟩
      rw [HLF.out]
      exact Cells.rows3 (one_hit _ _ _ _ _ (by go_simp) (by go_simp)) (by simp)
    cases htr : hasB S a 64 with
    | true =>
      have HTR : Hid (∀ W, Grow W0 W → Calls Tryz.prog 221 #[.agg (stA V S.num), .int .i64 (a : Int), .int .i64 64] W fun e w' => e = .returned (.bool true) ∧ Grow W w') := fun W g => by
        have := has_word S V W (HH0.out.grow g) a 64 (by decide) (by decide)
        rw [htr] at this; exact this
      have HT := Lib.hid htr
      clear htr
      go_wp2_with (go_at_call 221; refine (HTR.out _ grI).mono ?_; rintro e' w' ⟨rfl, nh, rfl⟩)
      go_loopw [6, 8, 39] (fun lv v i wr => ∃ (k : Nat) (s : Sl), k ≤ L.length ∧ i = .int .i64 k ∧ lv = .int .i64 (hitTo S a k).1 ∧ v = s.val ∧ Made W0.heap.size wr s 3 (flat (hitTo S a k).2) ∧ s.n ≤ k ∧ Grow W0 wr) (fun _ _ i _ => L.length - (intOf i).toNat)
      case atStart => exact ⟨0, .nil, by omega, rfl, rfl, rfl, Made.nil _ _ _, by simp [Sl.n], grI⟩
      case round =>
        obtain ⟨k, s, hk, rfl, rfl, rfl, hM, hsn2, hG⟩ := hrel
        obtain ⟨x, rfl⟩ := hG
        have HM := Lib.hid hM
        clear hM
        have hr := hitTo_range S a k
        have hp := powerN_range S a
        by_cases hlt : k < L.length
        · obtain ⟨hlb, hlc⟩ := hI.at k hlt
          have hcb : creatureB S (gt L k) = true := blockers_in (a := a) (by rw [HL.out, gt_eq _ _ hlt]; exact List.getElem_mem hlt)
          obtain ⟨c1, c2, _, _⟩ := creatureB_in hcb
          have HST : Hid (hitTo S a (k + 1) = ((hitTo S a k).1 - takeN S a k (hitTo S a k).1, (hitTo S a k).2 ++ [[(a : Int), gt (blockersN S a) k + 1, takeN S a k (hitTo S a k).1]])) := rfl
          have hnd := needsN_pos S a (gt L k)
          have HTK : Hid (takeN S a k (hitTo S a k).1 = if hasB S a 64 = true ∨ (k : Int) < (blockersN S a).length - 1 then min (hitTo S a k).1 (needsN S a (gt (blockersN S a) k)) else (hitTo S a k).1) := rfl
          rw [HL.out] at HTK HST
          generalize takeN S a k (hitTo S a k).1 = tk at *
          generalize (hitTo S a k).2 = rows at *
          generalize (hitTo S a k).1 = left at *
          have HN : Hid (∀ W, Grow W0 W → Calls Tryz.prog 250 #[.agg (stA V S.num), .int .i64 (a : Int), .int .i64 (gt L k)] W fun e w' => e = .returned (.int .i64 (needsN S a (gt L k))) ∧ Grow W w') := fun W g => needs_any S V W (HH0.out.grow g) a (gt L k)
          generalize needsN S a (gt L k) = nd at *
          obtain ⟨b, hb⟩ := Int.eq_ofNat_of_zero_le c1
          rw [hb] at hlc HST HN c2
          have hbs : b ≤ 1048576 := by omega
          clear hcb c1 hb
          have hmn : 0 ≤ min left nd ∧ min left nd ≤ left := by omega
          have HTE : Hid (tk = min left nd) := by rw [Hid, HTK.out, if_pos (Or.inl HT.out)]
          clear HTK
          go_wp2_with (first | (go_at_call 250; refine (HN.out _ grI).mono ?_; rintro e' w' ⟨rfl, nn, rfl⟩) | (go_at_call 251; refine (at_any _ b hbs).mono ?_; rintro e' w' ⟨rfl, na, rfl⟩) | (at_builtin; refine wpList_made rfl _ _ 183 rfl 185 Tryz.t185 (.agg (cellsOf [0, 0, 0])) 3 24 Tryz.underlying183 (by kernel_rfl) (by kernel_rfl) (by kernel_rfl) (by kernel_rfl) (by omega) rfl W0 s (.mk _ 0 1 1) (flat rows) (flat [[(a : Int), (b : Int) + 1, min left nd]]) rfl rfl (HM.out.grow grI) grI (one_hit _ _ _ _ _ (by go_simp) (by go_simp)) (flat_ones _) (flat_ones _) (by show s.n + 1 ≤ 4194304; omega) ?_; intro s2 y c1 _ c3 _; have C := Lib.hid (And.intro c1 c3); clear c1 c3))
          go_roundw
          case rel =>
            refine ⟨k + 1, s2, by omega, by go_num, by rw [HST.out, HTE.out] <;> simp, rfl, by rw [HST.out, HTE.out, flat_append]; exact C.out.1.grow grI, ?_, grI⟩
            have : s2.n = s.n + 1 := C.out.2
            omega
          case measure => simp [intOf]; omega
        · have hkl : k = L.length := by omega
          have HLF : Hid (hitsN S a = (hitTo S a L.length).2 ++ (if hasB S a 64 = true then [[(a : Int), foeN S, (hitTo S a L.length).1]] else []) ++ backTo S a L.length) := by
            rw [Hid, hitsN, HL.out, if_neg hL0]
          subst hkl
          have HLF2 : Hid (hitsN S a = ((hitTo S a L.length).2 ++ [[(a : Int), foeN S, (hitTo S a L.length).1]]) ++ backTo S a L.length) := by rw [Hid, HLF.out, if_pos HT.out]
          have HFO : Hid (foeN S = -1 - (1 - S.num 19)) := by rw [Hid, foeN]; omega
          rw [HFO.out] at HLF2
          clear HLF HT
          generalize (hitTo S a L.length).2 = rows at *
          generalize (hitTo S a L.length).1 = left at *
          go_wp2_with (at_builtin; refine wpList_made rfl _ _ 183 rfl 185 Tryz.t185 (.agg (cellsOf [0, 0, 0])) 3 24 Tryz.underlying183 (by kernel_rfl) (by kernel_rfl) (by kernel_rfl) (by kernel_rfl) (by omega) rfl W0 s (.mk _ 0 1 1) (flat rows) (flat [[(a : Int), -1 - (1 - S.num 19), left]]) rfl rfl (HM.out.grow grI) grI (one_hit _ _ _ _ _ (by go_simp) (by go_simp)) (flat_ones _) (flat_ones _) (by show s.n + 1 ≤ 4194304; omega) ?_; intro s2 y c1 _ c3 _; have C := Lib.hid (And.intro c1 c3); clear c1 c3)
          have hsn3 : s2.n ≤ L.length + 1 := by
            have : s2.n = s.n + 1 := C.out.2
            omega
          have HM2 : Hid (Made W0.heap.size (W0.plus y) s2 3 (flat (rows ++ [[(a : Int), -1 - (1 - S.num 19), left]]))) := by rw [Hid, flat_append]; exact C.out.1
          generalize rows ++ [[(a : Int), -1 - (1 - S.num 19), left]] = rows2 at *
          go_loopw [8, 81] (fun v i wr => ∃ (k : Nat) (s : Sl), k ≤ L.length ∧ i = .int .i64 k ∧ v = s.val ∧ Made W0.heap.size wr s 3 (flat (rows2 ++ backTo S a k)) ∧ s.n ≤ L.length + 1 + k ∧ Grow W0 wr) (fun _ i _ => L.length - (intOf i).toNat)
          case atStart => exact ⟨0, _, by omega, rfl, rfl, by rw [show backTo S a 0 = [] from rfl, List.append_nil]; exact HM2.out, by omega, grI⟩
          case round =>
            obtain ⟨k, s, hk, rfl, rfl, hM, hsn4, hG⟩ := hrel
            obtain ⟨z, rfl⟩ := hG
            have HM := Lib.hid hM
            clear hM
            by_cases hlt : k < L.length
            · obtain ⟨hlb, hlc⟩ := hI.at k hlt
              have HBK : Hid (backTo S a (k + 1) = backTo S a k ++ [[gt L k, (a : Int) + 1, powerN S (gt L k)]]) := by
                have := backTo_succ S a k (by rw [HL.out]; exact hlt)
                rw [HL.out] at this; exact this
              have HPW : Hid (∀ W, Grow W0 W → Calls Tryz.prog 248 #[.agg (stA V S.num), .int .i64 (gt L k)] W fun e w' => e = .returned (.int .i64 (powerN S (gt L k))) ∧ Grow W w') := fun W g => power_any S V W (HH0.out.grow g) (gt L k)
              generalize powerN S (gt L k) = pw at *
              generalize gt L k = b at *
              go_wp2_with fail
              go_region_law (first | (refine step_wanted (by rfl) ?_; go_simp; go_at_call 251; refine (at_any _ a (by omega)).mono ?_; rintro e' w' ⟨rfl, na, rfl⟩) | (refine step_wanted (by rfl) ?_; go_simp; go_at_call 248; refine (HPW.out _ grI).mono ?_; rintro e' w' ⟨rfl, np, rfl⟩) | (refine step_made (by rfl) _ _ 183 rfl 185 Tryz.t185 (.agg (cellsOf [0, 0, 0])) 3 24 Tryz.underlying183 (by kernel_rfl) (by kernel_rfl) (by kernel_rfl) (by kernel_rfl) (by omega) rfl W0 s (.mk _ 0 1 1) (flat (rows2 ++ backTo S a k)) (flat [[b, (a : Int) + 1, pw]]) rfl rfl (HM.out.grow grI) grI (one_hit _ _ _ _ _ (by go_simp) (by go_simp)) (flat_ones _) (flat_ones _) (by show s.n + 1 ≤ 4194304; omega) ?_; intro s2 y c1 _ c3 _; have C := Lib.hid (And.intro c1 c3); clear c1 c3))
              all_goals go_wp2_with fail
              all_goals go_roundw
              all_goals first
                | (simp [intOf]; omega)
                | (have h2 : s2.n = s.n + 1 := C.out.2
                   exact ⟨k + 1, s2, by omega, by go_num, rfl, by rw [HBK.out, ← List.append_assoc, flat_append]; exact C.out.1.grow grI, by omega, grI⟩)
            · have hkl : k = L.length := by omega
              subst hkl
              go_wp2_with fail
              go_ret
              refine ⟨s, rfl, Cells.rows3 (by rw [HLF2.out]; exact HM.out.cells.grow grI) (hitsN_wid S a), HG0.out.trans grI⟩
    | false =>
      have HTR : Hid (∀ W, Grow W0 W → Calls Tryz.prog 221 #[.agg (stA V S.num), .int .i64 (a : Int), .int .i64 64] W fun e w' => e = .returned (.bool false) ∧ Grow W w') := fun W g => by
        have := has_word S V W (HH0.out.grow g) a 64 (by decide) (by decide)
        rw [htr] at this; exact this
      have HT := Lib.hid htr
      clear htr
      go_wp2_with (go_at_call 221; refine (HTR.out _ grI).mono ?_; rintro e' w' ⟨rfl, nh, rfl⟩)
      go_loopw [6, 8, 39] (fun lv v i wr => ∃ (k : Nat) (s : Sl), k ≤ L.length ∧ i = .int .i64 k ∧ lv = .int .i64 (hitTo S a k).1 ∧ v = s.val ∧ Made W0.heap.size wr s 3 (flat (hitTo S a k).2) ∧ s.n ≤ k ∧ Grow W0 wr) (fun _ _ i _ => L.length - (intOf i).toNat)
      case atStart => exact ⟨0, .nil, by omega, rfl, rfl, rfl, Made.nil _ _ _, by simp [Sl.n], grI⟩
      case round =>
        obtain ⟨k, s, hk, rfl, rfl, rfl, hM, hsn2, hG⟩ := hrel
        obtain ⟨x, rfl⟩ := hG
        have HM := Lib.hid hM
        clear hM
        have hr := hitTo_range S a k
        have hp := powerN_range S a
        by_cases hlt : k < L.length
        · obtain ⟨hlb, hlc⟩ := hI.at k hlt
          have hcb : creatureB S (gt L k) = true := blockers_in (a := a) (by rw [HL.out, gt_eq _ _ hlt]; exact List.getElem_mem hlt)
          obtain ⟨c1, c2, _, _⟩ := creatureB_in hcb
          have HST : Hid (hitTo S a (k + 1) = ((hitTo S a k).1 - takeN S a k (hitTo S a k).1, (hitTo S a k).2 ++ [[(a : Int), gt (blockersN S a) k + 1, takeN S a k (hitTo S a k).1]])) := rfl
          have hnd := needsN_pos S a (gt L k)
          have HTK : Hid (takeN S a k (hitTo S a k).1 = if hasB S a 64 = true ∨ (k : Int) < (blockersN S a).length - 1 then min (hitTo S a k).1 (needsN S a (gt (blockersN S a) k)) else (hitTo S a k).1) := rfl
          rw [HL.out] at HTK HST
          generalize takeN S a k (hitTo S a k).1 = tk at *
          generalize (hitTo S a k).2 = rows at *
          generalize (hitTo S a k).1 = left at *
          have HN : Hid (∀ W, Grow W0 W → Calls Tryz.prog 250 #[.agg (stA V S.num), .int .i64 (a : Int), .int .i64 (gt L k)] W fun e w' => e = .returned (.int .i64 (needsN S a (gt L k))) ∧ Grow W w') := fun W g => needs_any S V W (HH0.out.grow g) a (gt L k)
          generalize needsN S a (gt L k) = nd at *
          obtain ⟨b, hb⟩ := Int.eq_ofNat_of_zero_le c1
          rw [hb] at hlc HST HN c2
          have hbs : b ≤ 1048576 := by omega
          clear hcb c1 hb
          have hmn : 0 ≤ min left nd ∧ min left nd ≤ left := by omega
          by_cases hkl : (k : Int) < L.length - 1
          · have HTE : Hid (tk = min left nd) := by rw [Hid, HTK.out, if_pos (Or.inr hkl)]
            clear HTK
            go_wp2_with (first | (go_at_call 250; refine (HN.out _ grI).mono ?_; rintro e' w' ⟨rfl, nn, rfl⟩) | (go_at_call 251; refine (at_any _ b hbs).mono ?_; rintro e' w' ⟨rfl, na, rfl⟩) | (at_builtin; refine wpList_made rfl _ _ 183 rfl 185 Tryz.t185 (.agg (cellsOf [0, 0, 0])) 3 24 Tryz.underlying183 (by kernel_rfl) (by kernel_rfl) (by kernel_rfl) (by kernel_rfl) (by omega) rfl W0 s (.mk _ 0 1 1) (flat rows) (flat [[(a : Int), (b : Int) + 1, min left nd]]) rfl rfl (HM.out.grow grI) grI (one_hit _ _ _ _ _ (by go_simp) (by go_simp)) (flat_ones _) (flat_ones _) (by show s.n + 1 ≤ 4194304; omega) ?_; intro s2 y c1 _ c3 _; have C := Lib.hid (And.intro c1 c3); clear c1 c3))
            go_roundw
            case rel =>
              refine ⟨k + 1, s2, by omega, by go_num, by rw [HST.out, HTE.out] <;> simp, rfl, by rw [HST.out, HTE.out, flat_append]; exact C.out.1.grow grI, ?_, grI⟩
              have : s2.n = s.n + 1 := C.out.2
              omega
            case measure => simp [intOf]; omega
          · have HTE : Hid (tk = left) := by rw [Hid, HTK.out, if_neg (fun h => h.elim (by rw [HT.out]; decide) hkl)]
            clear HTK
            go_wp2_with (first | (go_at_call 251; refine (at_any _ b hbs).mono ?_; rintro e' w' ⟨rfl, na, rfl⟩) | (at_builtin; refine wpList_made rfl _ _ 183 rfl 185 Tryz.t185 (.agg (cellsOf [0, 0, 0])) 3 24 Tryz.underlying183 (by kernel_rfl) (by kernel_rfl) (by kernel_rfl) (by kernel_rfl) (by omega) rfl W0 s (.mk _ 0 1 1) (flat rows) (flat [[(a : Int), (b : Int) + 1, left]]) rfl rfl (HM.out.grow grI) grI (one_hit _ _ _ _ _ (by go_simp) (by go_simp)) (flat_ones _) (flat_ones _) (by show s.n + 1 ≤ 4194304; omega) ?_; intro s2 y c1 _ c3 _; have C := Lib.hid (And.intro c1 c3); clear c1 c3))
            go_roundw
            case rel =>
              refine ⟨k + 1, s2, by omega, by go_num, by rw [HST.out, HTE.out] <;> simp, rfl, by rw [HST.out, HTE.out, flat_append]; exact C.out.1.grow grI, ?_, grI⟩
              have : s2.n = s.n + 1 := C.out.2
              omega
            case measure => simp [intOf]; omega
        · have hkl : k = L.length := by omega
          have HLF : Hid (hitsN S a = (hitTo S a L.length).2 ++ (if hasB S a 64 = true then [[(a : Int), foeN S, (hitTo S a L.length).1]] else []) ++ backTo S a L.length) := by
            rw [Hid, hitsN, HL.out, if_neg hL0]
          subst hkl
          have HLF2 : Hid (hitsN S a = (hitTo S a L.length).2 ++ backTo S a L.length) := by rw [Hid, HLF.out, if_neg (by rw [HT.out]; decide), List.append_nil]
          clear HLF HT
          generalize (hitTo S a L.length).2 = rows2 at *
          generalize (hitTo S a L.length).1 = left at *
          go_wp2_with fail
          have hsn3 : s.n ≤ L.length + 1 := by omega
          have HM2 := HM
          go_loopw [8, 81] (fun v i wr => ∃ (k : Nat) (s : Sl), k ≤ L.length ∧ i = .int .i64 k ∧ v = s.val ∧ Made W0.heap.size wr s 3 (flat (rows2 ++ backTo S a k)) ∧ s.n ≤ L.length + 1 + k ∧ Grow W0 wr) (fun _ i _ => L.length - (intOf i).toNat)
          case atStart => exact ⟨0, _, by omega, rfl, rfl, by rw [show backTo S a 0 = [] from rfl, List.append_nil]; exact HM2.out, by omega, grI⟩
          case round =>
            obtain ⟨k, s, hk, rfl, rfl, hM, hsn4, hG⟩ := hrel
            obtain ⟨z, rfl⟩ := hG
            have HM := Lib.hid hM
            clear hM
            by_cases hlt : k < L.length
            · obtain ⟨hlb, hlc⟩ := hI.at k hlt
              have HBK : Hid (backTo S a (k + 1) = backTo S a k ++ [[gt L k, (a : Int) + 1, powerN S (gt L k)]]) := by
                have := backTo_succ S a k (by rw [HL.out]; exact hlt)
                rw [HL.out] at this; exact this
              have HPW : Hid (∀ W, Grow W0 W → Calls Tryz.prog 248 #[.agg (stA V S.num), .int .i64 (gt L k)] W fun e w' => e = .returned (.int .i64 (powerN S (gt L k))) ∧ Grow W w') := fun W g => power_any S V W (HH0.out.grow g) (gt L k)
              generalize powerN S (gt L k) = pw at *
              generalize gt L k = b at *
              go_wp2_with fail
              go_region_law (first | (refine step_wanted (by rfl) ?_; go_simp; go_at_call 251; refine (at_any _ a (by omega)).mono ?_; rintro e' w' ⟨rfl, na, rfl⟩) | (refine step_wanted (by rfl) ?_; go_simp; go_at_call 248; refine (HPW.out _ grI).mono ?_; rintro e' w' ⟨rfl, np, rfl⟩) | (refine step_made (by rfl) _ _ 183 rfl 185 Tryz.t185 (.agg (cellsOf [0, 0, 0])) 3 24 Tryz.underlying183 (by kernel_rfl) (by kernel_rfl) (by kernel_rfl) (by kernel_rfl) (by omega) rfl W0 s (.mk _ 0 1 1) (flat (rows2 ++ backTo S a k)) (flat [[b, (a : Int) + 1, pw]]) rfl rfl (HM.out.grow grI) grI (one_hit _ _ _ _ _ (by go_simp) (by go_simp)) (flat_ones _) (flat_ones _) (by show s.n + 1 ≤ 4194304; omega) ?_; intro s2 y c1 _ c3 _; have C := Lib.hid (And.intro c1 c3); clear c1 c3))
              all_goals go_wp2_with fail
              all_goals go_roundw
              all_goals first
                | (simp [intOf]; omega)
                | (have h2 : s2.n = s.n + 1 := C.out.2
                   exact ⟨k + 1, s2, by omega, by go_num, rfl, by rw [HBK.out, ← List.append_assoc, flat_append]; exact C.out.1.grow grI, by omega, grI⟩)
            · have hkl : k = L.length := by omega
              subst hkl
              go_wp2_with fail
              go_ret
              refine ⟨s, rfl, Cells.rows3 (by rw [HLF2.out]; exact HM.out.cells.grow grI) (hitsN_wid S a), HG0.out.trans grI⟩
  go_region_law (first | (refine step_wanted (by rfl) ?_; go_simp; go_at_call 248; refine (power_any S V _ (HH.out.grow grI) a).mono ?_; rintro e' w' ⟨rfl, ny, rfl⟩) | (refine step_wanted (by rfl) ?_; go_simp; go_at_call 249; refine (blockers_any S V _ (HH.out.grow grI) a (by omega)).mono ?_; rintro e' w' ⟨sb, rfl, hI, nz, rfl⟩; (try simp only [drew_plus] at hI); (try simp only [plus_plus] at hI); have HI := Lib.hid hI; clear hI))
  all_goals change K _ _
  all_goals go_simp
  all_goals (apply key; exact HH.out.grow grI; go_simp; exact (by first | (go_simp; done) | (go_simp; omega) | (simp only [Sl.b]; go_simp; omega)); exact HI.out.grow grI; exact grI)

end Go.Proofs.YtgobdndjemicjaaGreatDoor
