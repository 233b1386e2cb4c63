/-
  The walk of rand's Order.
-/
import Derived.Test.YtgobdndjemicjaaGreatDoorMShN
namespace Go.Proofs.YtgobdndjemicjaaGreatDoor
open Go Go.RowKit Go.Shelf

@[go_sem] theorem make_ints (w : World) (l c : Int) (h0 : 0 ≤ l) (hlc : l = c) (h1 : c ≤ 1048576) : (Instr.makeSlice 23 (.int .i64 l) (.int .i64 c)).run Tryz.prog w = .ok (.slice (some ⟨w.heap.size, 0, none⟩) c.toNat c.toNat) (w.alloc (.cells (cellsOf (List.replicate c.toNat 0)) 3)) := by
  subst hlc
  have hb : (Tryz.t3.bytes : Int) * l ≤ 281474976710656 := by
    rw [show (Tryz.t3.bytes : Int) = 8 by kernel_rfl]; omega
  have h := run_make (P := Tryz.prog) w 23 3 Tryz.t3 (.int .i64 0) Tryz.underlying23 (by kernel_rfl) (by kernel_rfl) .i64 .i64 l l h0 (Int.le_refl _) hb (by omega)
  have hz : madeCells #[.int .i64 0] l.toNat = cellsOf (List.replicate l.toNat 0) := by
    apply Array.ext'
    rw [toList_madeCells_one]
    simp [cellsOf]
  rw [h, show Tryz.t3.size = 1 by kernel_rfl, Nat.mul_one]
  simp only [Value.cells, hz]
theorem needs_any (n : Nat) (hn : n ≤ 1048576) (w : World) : Calls Tryz.prog 179 #[.int .i64 (n : Int)] w fun e w' => e = .returned (.int .i64 (max (n : Int) 1 - 1)) ∧ w' = w := by
  go_enter Tryz.func179, Tryz.ntmps179
  go_wp2_with fail
  go_ret
  exact ⟨rfl, rfl⟩
/-- What Order hands back. -/
def OrdV (d : List Int) (c : Int) (n : Nat) (w : World) (r : Ending) (w' : World) : Prop :=
  ∃ s : Sl, r = .returned (.tuple #[s.val, .int .i64 (ordR d c n).2.1, errV (ordR d c n).2.2]) ∧ Ints w' s (ordR d c n).1 ∧ (∀ k, s.owns k → w.heap.size ≤ k ∧ k < w'.heap.size) ∧ Grow w w'
theorem idl_set (n k : Nat) (l : List Int) (h : l.length = n) (hk : k < n) (hl : ∀ i, i < k → gt l i = i) : ∀ i, i < k + 1 → gt (l.set k (k : Int)) i = i := fun i hi => by
  rw [gt_set _ _ _ _ (by omega)]
  split
  · omega
  · exact hl i (by omega)
theorem idl_all (n : Nat) (l : List Int) (h : l.length = n) (hl : ∀ i, i < n → gt l i = i) : l = idL n := by
  apply List.ext_getElem (by simp [h, idL])
  intro i h1 h2
  have := hl i (by omega)
  rw [gt_eq l i h1] at this
  simp [this, idL]
theorem ord_pos {j : Nat} (h : 0 < (j : Int)) : 0 < (j : Int) + 1 := by omega
theorem ord_jn {n j t : Nat} (hz : (j : Int) + t = (n : Int) - 1) (hm : (n : Int) ≤ 1048576) : (j : Int) ≤ 1048576 := by omega
theorem ord_max {j : Nat} (h : (j : Int) ≤ 1048576) : (j : Int) + 1 ≤ 9223372036854775807 := by omega
theorem ord_cb {c n : Nat} (h : c < n) (hn : n ≤ 1048576) : (c : Int) ≤ 1048576 := by omega
theorem ord_n {n j t kn L : Nat} {b : Int} (hz : (j : Int) + t = (n : Int) - 1) (h : b = (j : Int) + 1) (hL : L = n) (hk : (kn : Int) < b) : (j : Int) < (n : Int) ∧ (kn : Int) < (n : Int) ∧ j < L ∧ kn < L ∧ (0 : Int) ≤ (kn : Int) ∧ n - 1 - t = j := by omega
theorem ord_next {n t j : Nat} (hz : (j : Int) + t = (n : Int) - 1) (hp : 0 < (j : Int)) : ((t + 1 : Nat) : Int) ≤ max (n : Int) 1 - 1 ∧ (j : Int) - 1 + ((t + 1 : Nat) : Int) = (n : Int) - 1 := by omega
theorem ord_meas {j : Nat} (h : 0 < (j : Int)) : ((j : Int) - 1).toNat < (j : Int).toNat := by omega
theorem ord_stop {n t : Nat} {z : Int} (ht : (t : Int) ≤ max (n : Int) 1 - 1) (hz : z + t = (n : Int) - 1) (hp : ¬ 0 < z) : (t : Int) = max (n : Int) 1 - 1 := by omega
theorem ord_fin {n t k0 c0 : Nat} (h : (t : Int) = max (n : Int) 1 - 1) (hc : c0 = k0 + t) : t = n - 1 ∧ (c0 : Int) = (k0 : Int) + (max (n : Int) 1 - 1) := by omega
theorem ord_lt {n k0 t c0 len : Nat} {z : Int} (hdn : n ≤ 1 ∨ k0 + (n - 1) ≤ len) (hc : c0 = k0 + t) (hz : z + t = (n : Int) - 1) (hp : 0 < z) : c0 < len := by omega
set_option maxRecDepth 100000 in
set_option maxHeartbeats 4000000 in
theorem order_any (w : World) (sd : Sl) (d : List Int) (c : Int) (n : Nat) (R : Ints w sd d) (hd : d.length ≤ 1048576) (hc : c ≤ 1073741824) (hn : n ≤ 1048576) :
    Calls Tryz.prog 131 #[sd.val, .int .i64 c, .int .i64 (n : Int)] w (OrdV d c n w) := by
  have hlen := R.len
  have HR := Lib.hid R
  clear R
  have HCK := Lib.hid (fun W => randCheck_any sd W)
  have hnil : ∀ (x : Int) (w' : World), Grow w w' → ordR d c n = ([], 0, x) → OrdV d c n w (.returned (.tuple #[.slice none 0 0, .int .i64 0, errV x])) w' := fun x w' g e => ⟨.nil, by rw [e]; rfl, by rw [e]; exact Ints.nil _, fun k h => h.elim, g⟩
  have HN := Lib.hid hnil
  clear hnil
  by_cases h1 : 4096 < d.length
  · have e1 : ordR d c n = ([], 0, 19) := by unfold ordR; rw [if_pos h1]
    have HE := Lib.hid e1
    have hck := HCK.out
    rw [hlen, if_pos h1] at hck
    have HC2 := Lib.hid hck
    clear hck e1
    go_enter Tryz.func131, Tryz.ntmps131
    go_wp2_with (go_at_call 49; refine (HC2.out _).mono ?_; rintro e' w' ⟨rfl, hww⟩; subst w')
    go_ret3
    exact HN.out 19 _ grI HE.out
  · have hck := HCK.out
    rw [hlen, if_neg h1] at hck
    have HC2 := Lib.hid hck
    clear hck
    by_cases h2 : 400 < n ∨ c < 0
    · have e1 : ordR d c n = ([], 0, 1) := by unfold ordR; rw [if_neg h1, if_pos h2]
      have HE := Lib.hid e1
      clear e1
      have hn0 : ¬ (n : Int) < 0 := by omega
      by_cases h3 : 400 < n
      · have h3' : 400 < (n : Int) := by omega
        go_enter Tryz.func131, Tryz.ntmps131
        go_wp2_with (go_at_call 49; refine (HC2.out _).mono ?_; rintro e' w' ⟨rfl, hww⟩; subst w')
        go_ret3
        exact HN.out 1 _ grI HE.out
      · have h4 : c < 0 := by omega
        have h3' : ¬ 400 < (n : Int) := by omega
        clear h2
        go_enter Tryz.func131, Tryz.ntmps131
        go_wp2_with (go_at_call 49; refine (HC2.out _).mono ?_; rintro e' w' ⟨rfl, hww⟩; subst w')
        go_ret3
        exact HN.out 1 _ grI HE.out
    · have h3' : ¬ 400 < (n : Int) := by omega
      have h4 : ¬ c < 0 := by omega
      have hn0 : ¬ (n : Int) < 0 := by omega
      obtain ⟨k0, rfl⟩ := Int.eq_ofNat_of_zero_le (show 0 ≤ c by omega)
      have HL := Lib.hid (fun W => left_any sd k0 (by omega) (by omega) hc W)
      have HNE := Lib.hid (fun W => needs_any n hn W)
      rw [hlen] at HL
      by_cases h5 : max ((d.length : Int) - k0) 0 < max (n : Int) 1 - 1
      · have e1 : ordR d k0 n = ([], 0, 13) := by unfold ordR; rw [if_neg h1, if_neg h2, if_pos h5]
        have HE := Lib.hid e1
        clear e1 h2
        generalize max ((d.length : Int) - k0) 0 = u at *
        generalize max (n : Int) 1 - 1 = v at *
        go_enter Tryz.func131, Tryz.ntmps131
        go_wp2_with (first | (go_at_call 49; refine (HC2.out _).mono ?_; rintro e' w' ⟨rfl, hww⟩; subst w') | (go_at_call 177; refine (HL.out _).mono ?_; rintro e' w' ⟨rfl, hww⟩; subst w') | (go_at_call 179; refine (HNE.out _).mono ?_; rintro e' w' ⟨rfl, hww⟩; subst w'))
        go_ret3
        exact HN.out 13 _ grI HE.out
      · have e1 : ordR d k0 n = (ordS d k0 n (n - 1), (k0 : Int) + (max (n : Int) 1 - 1), 0) := by unfold ordR; rw [if_neg h1, if_neg h2, if_neg h5, Int.toNat_natCast]
        have HE := Lib.hid e1
        have hdn : n ≤ 1 ∨ k0 + (n - 1) ≤ d.length := by omega
        have hn400 : n ≤ 400 := by omega
        have HDN := Lib.hid hdn
        clear e1 h2 hdn
        have h5' : ¬ max ((d.length : Int) - k0) 0 < max (n : Int) 1 - 1 := h5
        generalize max ((d.length : Int) - k0) 0 = u at HL h5'
        generalize hv : max (n : Int) 1 - 1 = v at HNE h5'
        have HV := Lib.hid hv
        clear h5 hv
        have hm0 : 0 ≤ (n : Int) := by omega
        have hm1 : (n : Int) ≤ 1048576 := by omega
        go_enter Tryz.func131, Tryz.ntmps131
        go_wp2_with (first | (go_at_call 49; refine (HC2.out _).mono ?_; rintro e' w' ⟨rfl, hww⟩; subst w') | (go_at_call 177; refine (HL.out _).mono ?_; rintro e' w' ⟨rfl, hww⟩; subst w') | (go_at_call 179; refine (HNE.out _).mono ?_; rintro e' w' ⟨rfl, hww⟩; subst w'))
        go_loopw [43] (fun i wr => ∃ (k : Nat) (l : List Int), k ≤ n ∧ i = .int .i64 k ∧ l.length = n ∧ Hid (∀ i, i < k → gt l i = i) ∧ wr = w.alloc (.cells (cellsOf l) 3)) (fun i _ => n - (intOf i).toNat)
        case atStart => exact ⟨0, List.replicate n 0, by omega, rfl, by simp, fun i hi => absurd hi (by omega), by simp⟩
        case round =>
          obtain ⟨k, l, hk, rfl, hl, hid, rfl⟩ := hrel
          by_cases hlt : k < n
          · have HI := Lib.hid (idl_set n k l hl hlt hid.out)
            go_wp2_with fail
            go_roundw
            case rel => exact ⟨k + 1, l.set k (k : Int), by omega, by go_num, by simp [hl], HI.out, rfl⟩
            case measure => simp [intOf]; omega
          · have HO := Lib.hid (idl_all n l hl (fun i hi => hid.out i (by omega)))
            have HL0 := hl
            clear hl hid
            go_wp2_with fail
            go_loopw [12, 1] (fun i c wr => ∃ (t c0 : Nat) (z : Int) (l : List Int) (x : Ext), (t : Int) ≤ max (n : Int) 1 - 1 ∧ z + t = (n : Int) - 1 ∧ i = .int .i64 z ∧ c = .int .i64 (c0 : Int) ∧ Hid (c0 = k0 + t) ∧ Hid (l = ordS d k0 n t) ∧ l.length = n ∧ wr = (w.alloc (.cells (cellsOf l) 3)).plus x) (fun i _ _ => (intOf i).toNat)
            case atStart => exact ⟨0, k0, _, l, Ext.none, by omega, by first | rfl | omega, rfl, rfl, rfl, HO.out, HL0, by rw [plus_none]⟩
            case round =>
              obtain ⟨t, c0, z, l, x, ht, hz, rfl, rfl, hc0', hord, hl, rfl⟩ := hrel
              have hc0 := hc0'.out
              by_cases hpos : 0 < z
              · obtain ⟨j, rfl⟩ := Int.eq_ofNat_of_zero_le (Int.le_of_lt hpos)
                have hjb : (j : Int) ≤ 1048576 := ord_jn hz hm1
                have hc0d : c0 < d.length := ord_lt HDN.out hc0 hz hpos
                have hcd := (HR.out.at c0 hc0d).2
                have hb := (HR.out.at c0 hc0d).1
                have hbi := belowI_in (gt d c0) ((j : Int) + 1) (ord_pos hpos)
                have HB := Lib.hid (fun W => below_any (gt d c0) ((j : Int) + 1) (ord_pos hpos) (ord_max hjb) W)
                obtain ⟨kn, hkn⟩ := Int.eq_ofNat_of_zero_le hbi.1
                rw [hkn] at hbi HB
                obtain ⟨b3, b4, b7, b8, b6, hnj⟩ := ord_n hz rfl hl hbi.2
                have hstep : Hid (swapL l j kn = ordS d k0 n (t + 1)) := by
                  show _ = swapL _ _ _
                  rw [hord.out, hnj, ← hc0, hkn, Int.toNat_natCast]
                have b9 : kn < n := hl ▸ b8
                have b10 : j < n := hl ▸ b7
                have b1 : (c0 : Int) < (d.length : Int) := Int.ofNat_lt.2 hc0d
                have b2 : (c0 : Int) ≤ 1048576 := ord_cb hc0d hd
                have HC1 : Hid (c0 + 1 = k0 + (t + 1)) := by rw [Hid, hc0]; exact Nat.add_assoc _ _ _
                obtain ⟨hn1, hn2⟩ := ord_next hz hpos
                have HN1 := Lib.hid hn1
                have HN2 := Lib.hid hn2
                have b5 : (0 : Int) ≤ (j : Int) := Int.le_of_lt hpos
                clear hkn hord hbi hc0 hnj hn1 hn2 ht hz
                go_wp2_with (go_at_call 178; refine (HB.out _).mono ?_; rintro e' w' ⟨rfl, hww⟩; subst w')
                go_region
                go_wp2_with fail
                go_roundw
                case rel => exact ⟨t + 1, c0 + 1, (j : Int) - 1, swapL l j kn, _, HN1.out, HN2.out, by first | rfl | go_num, by first | rfl | go_num, HC1, hstep, by rw [swap_len]; exact hl, plus_drew _ _⟩
                case measure => simp only [intOf]; exact ord_meas hpos
              · have hfin := hord
                clear hc0
                have hstop : (t : Int) = max (n : Int) 1 - 1 := ord_stop ht hz hpos
                go_wp2_with fail
                go_ret3
                obtain ⟨ht1, hc9⟩ := ord_fin hstop hc0'.out
                refine ⟨.mk w.heap.size 0 n n, ?_, ?_, ?_, grI⟩
                · rw [HE.out]
                  rw [← hc9]
                  rfl
                · rw [HE.out]
                  show Ints _ _ (ordS d k0 n (n - 1))
                  rw [← ht1, ← hfin.out]
                  exact ⟨hl.symm, Nat.le_refl _, fun i hi => by
                    show World.cell? _ ⟨w.heap.size, 0 + i, none⟩ = _
                    rw [Nat.zero_add, plus_cell_lt _ _ _ _ (by simp only [alloc_size']; exact Nat.lt_succ_self _), alloc_cell, if_pos rfl, cellsOf_get _ _ hi]⟩
                · intro k hk
                  have hk : k = w.heap.size := hk
                  subst hk
                  exact ⟨Nat.le_refl _, by simp only [plus_size, alloc_size']; omega⟩
end Go.Proofs.YtgobdndjemicjaaGreatDoor
