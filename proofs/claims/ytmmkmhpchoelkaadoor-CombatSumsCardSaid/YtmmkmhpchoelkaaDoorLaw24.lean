/-
  The walk of the law CombatSums.
-/
import Derived.Test.YtmmkmhpchoelkaaDoorSumsN
import Derived.Test.YtmmkmhpchoelkaaDoorMapN
import Derived.Test.YtmmkmhpchoelkaaDoorRefChk
namespace Go.Proofs.YtmmkmhpchoelkaaDoor
open Go Go.RowKit Go.Maps

@[go_sem] theorem blk_allocM (w : World) (es : Array MapEntry) (c n : Nat) : (w.alloc (.map es c)).blk n = if n = w.heap.size then #[] else w.blk n := by
  split
  · rename_i h; subst h; simp only [World.blk, heap_alloc_new]
  · rename_i h
    simp only [World.blk, World.alloc, Array.getElem?_push, if_neg h]
@[go_sem] theorem cell_allocM (w : World) (es : Array MapEntry) (c n i : Nat) : (w.alloc (.map es c)).cell? ⟨n, i, none⟩ = if n = w.heap.size then none else w.cell? ⟨n, i, none⟩ := by
  split
  · rename_i h; subst h; simp only [World.cell?, heap_alloc_new]
  · rename_i h; exact World.cell?_alloc_old w _ _ h
theorem cell_in_blk {w : World} {b i : Nat} {cs : Array Value} {v : Value} (h : w.blk b = cs) (hv : cs[i]? = some v) : w.cell? ⟨b, i, none⟩ = some v := by
  subst h
  unfold World.blk at hv
  cases ho : w.heap[b]? with
  | none => simp [ho] at hv
  | some o =>
    cases o <;> simp only [ho] at hv <;> try (simp at hv; done)
    simp only [World.cell?, ho]
    exact hv
theorem long_small30 {S : St} (h : longB S 30 = false) : Small S ∧ (S.list 8).length ≤ 1000 := by
  unfold longB longTo at h
  rw [Bool.or_eq_false_iff] at h
  have hz : ∀ z, z < 11 → (S.list z).length ≤ 40 := fun z hz => by
    have h2 := h.2
    rw [List.any_eq_false] at h2
    have := h2 z (List.mem_range.2 hz)
    simp at this; omega
  refine ⟨⟨by have := h.1; simp at this; omega, fun z hz' => Nat.le_trans (hz z hz') (by decide)⟩, Nat.le_trans (hz 8 (by decide)) (by decide)⟩
theorem wrap64_add (a b : Int) : wrap64 (wrap64 a + b) = wrap64 (a + b) := by unfold wrap64; omega
theorem wrap64_in64 (a : Int) : -9223372036854775808 ≤ wrap64 a ∧ wrap64 a ≤ 9223372036854775807 := by unfold wrap64; omega
/-- What the map holds behind so many hits. -/
def sumTo (S : St) (k : Nat) : Int → Int := fun id => wrap64 (sumOf S id ((HitsN S).take k))
theorem sumTo_zero (S : St) : sumTo S 0 = fun _ => 0 := by
  funext id
  show wrap64 (sumOf S id ((HitsN S).take 0)) = 0
  rw [List.take_zero]; simp [sumOf, wrap64]
theorem sumTo_end (S : St) (k : Nat) (h : k = (HitsN S).length) (id : Int) : sumTo S k id = wrap64 (sumOf S id (HitsN S)) := by rw [sumTo, h, List.take_length]
theorem sumTo_succ (S : St) (k : Nat) (h : k < (HitsN S).length) : sumTo S (k + 1) = if countsB S (rowAt (HitsN S) k) = true then (fun y => if y = gt (rowAt (HitsN S) k) 0 then wrap64 (sumTo S k (gt (rowAt (HitsN S) k) 0) + gt (rowAt (HitsN S) k) 2) else sumTo S k y) else sumTo S k := by
  have e : rowAt (HitsN S) k = (HitsN S)[k] := by simp [rowAt, h]
  have hs : ∀ id, sumOf S id ((HitsN S).take (k + 1)) = sumOf S id ((HitsN S).take k) + (if countsB S (rowAt (HitsN S) k) = true ∧ gt (rowAt (HitsN S) k) 0 = id then gt (rowAt (HitsN S) k) 2 else 0) := fun id => by
    rw [List.take_add_one, List.getElem?_eq_getElem h, sumOf_append, e]
    simp [sumOf]
  funext id
  by_cases hc : countsB S (rowAt (HitsN S) k) = true
  · rw [if_pos hc, sumTo, hs]
    by_cases hi : id = gt (rowAt (HitsN S) k) 0
    · rw [if_pos ⟨hc, hi.symm⟩, if_pos hi, sumTo, wrap64_add, hi]
    · rw [if_neg (fun h => hi h.2.symm), if_neg hi, Int.add_zero]; rfl
  · rw [if_neg hc, sumTo, hs, if_neg (fun h => hc h.1), Int.add_zero]; rfl
theorem HitsN_len (S : St) (hl : (S.list 8).length ≤ 1000) : (HitsN S).length ≤ 2001000 := by
  have h1 : (HitsN S).length ≤ (rawN S).length := List.length_filter_le _ _
  have h2 : rawN S = rawTo S (attackersN S).length := by rw [rawTo, List.take_length]; rfl
  have h3 := rawTo_len S hl (attackersN S).length (Nat.le_refl _)
  have h4 : (attackersN S).length ≤ (S.list 8).length := List.length_filter_le _ _
  rw [← h2] at h3
  omega
theorem hits_in {S : St} {k : Nat} (h : k < (HitsN S).length) : rowAt (HitsN S) k ∈ HitsN S := rowAt_in _ _ h
theorem HitsN_wid (S : St) : ∀ r, r ∈ HitsN S → r.length = 3 := by
  intro r h
  obtain ⟨a, _, ha⟩ := List.mem_flatMap.1 (List.mem_filter.1 h).1
  exact hitsN_wid S a r ha
/-- The law's two loops, behind Hits. -/
structure Cs (S : St) (V : SV) (w wr : World) (mb n : Nat) (f : Int → Int) : Prop where
  rs : RS S V wr
  box : wr.blk w.heap.size = stA V S.num
  lt : w.heap.size < wr.heap.size
  map : MapN wr mb n f
set_option maxRecDepth 100000 in
set_option maxHeartbeats 4000000 in
theorem cs_any (S : St) (V : SV) (w : World) (R : RepSt w V S) (GL : Glob w) (HAl : Hid (∀ W, Grow w W → Calls Tryd.prog 12 #[] W fun e w' => e = .returned (.bool true) ∧ Grow W w')) :
    Calls Tryd.prog 4 #[.agg (stA V S.num)] w fun e w' => e = .returned (.bool true) ∧ Grow w w' := by
  have HLo := Lib.hid (fun W (g : Grow w W) => long_any S V 30 (by omega) W (R.grow g))
  cases hl : longB S 30 with
  | true =>
    rw [hl] at HLo
    clear R GL hl
    go_enter Tryd.func4, Tryd.ntmps4
    go_wp2_with (first | (go_at_call 12; refine (HAl.out _ (by repeat (first | exact Grow.refl _ | refine Grow.andr ?_ | refine Grow.plus ?_ _ | refine Grow.alloc ?_ _ | refine Grow.drew ?_ | refine Grow.drewN ?_ _))).mono ?_; rintro e' w' ⟨rfl, nx, rfl⟩) | (go_at_call 6; refine (HLo.out _ (by repeat (first | exact Grow.refl _ | refine Grow.andr ?_ | refine Grow.plus ?_ _ | refine Grow.alloc ?_ _ | refine Grow.drew ?_ | refine Grow.drewN ?_ _))).mono ?_; rintro e' w' ⟨rfl, nx, rfl⟩))
    go_ret
    exact ⟨rfl, (by repeat (first | exact Grow.refl _ | refine Grow.andr ?_ | refine Grow.plus ?_ _ | refine Grow.alloc ?_ _ | refine Grow.drew ?_ | refine Grow.drewN ?_ _))⟩
  | false =>
  have hsm := long_small30 hl
  have HRef := Lib.hid (fun W (g : Grow w W) => refCheck_any S V W (R.grow g) hsm.1)
  rw [hl] at HLo
  clear hl
  by_cases hck : checkN S = 0
  · rw [hck] at HRef
    have HRS := Lib.hid (show RS S V w from ⟨R, (checkN_zero S).1 hck, hsm.1, GL⟩)
    have H8 : Hid ((S.list 8).length ≤ 1000) := hsm.2
    clear R GL hck hsm
    have hmm := @run_makeMap Tryd.prog
    go_enter Tryd.func4, Tryd.ntmps4
    go_wp2_with (first | (go_at_call 12; refine (HAl.out _ (by repeat (first | exact Grow.refl _ | refine Grow.andr ?_ | refine Grow.plus ?_ _ | refine Grow.alloc ?_ _ | refine Grow.drew ?_ | refine Grow.drewN ?_ _))).mono ?_; rintro e' w' ⟨rfl, na, rfl⟩) | (go_at_call 6; refine (HLo.out _ (by repeat (first | exact Grow.refl _ | refine Grow.andr ?_ | refine Grow.plus ?_ _ | refine Grow.alloc ?_ _ | refine Grow.drew ?_ | refine Grow.drewN ?_ _))).mono ?_; rintro e' w' ⟨rfl, nb, rfl⟩) | (go_at_call 7; refine (HRef.out _ (by repeat (first | exact Grow.refl _ | refine Grow.andr ?_ | refine Grow.plus ?_ _ | refine Grow.alloc ?_ _ | refine Grow.drew ?_ | refine Grow.drewN ?_ _))).mono ?_; rintro e' w' ⟨rfl, nx, rfl⟩) | (go_at_call 13; refine (allHits_any S V _ (HRS.out.grow (by repeat (first | exact Grow.refl _ | refine Grow.andr ?_ | refine Grow.plus ?_ _ | refine Grow.alloc ?_ _ | refine Grow.drew ?_ | refine Grow.drewN ?_ _))) H8.out).mono ?_; rintro e' W1 ⟨sh, rfl, hr, hg⟩; have hshn := hr.len; have HW := Lib.hid (And.intro hr hg); clear hr hg))
    have hgw : Grow w W1 := Grow.trans (by repeat (first | exact Grow.refl _ | refine Grow.andr ?_ | refine Grow.plus ?_ _ | refine Grow.alloc ?_ _ | refine Grow.drew ?_ | refine Grow.drewN ?_ _)) HW.out.2
    have hmb := MapN.made ((w.alloc (.cells (stA V S.num) 29)).plus ((na.and nb).and nx))
    rw [plus_size, alloc_size'] at hmb
    have hmg := hmb.grow HW.out.2
    have hbk : W1.blk w.heap.size = stA V S.num := by
      rw [blk_grow HW.out.2 (by rw [alloc_size', plus_size, alloc_size']; omega)]
      go_simp
    have hbl : w.heap.size < W1.heap.size := by
      have := HW.out.2.size
      rw [alloc_size', plus_size, alloc_size'] at this; omega
    have HC := Lib.hid (And.intro hmg (And.intro hgw (And.intro hbk hbl)))
    clear hmb hmg hgw hbk hbl
    have hmbw : w.heap.size < w.heap.size + 1 + ((na.and nb).and nx).objs.size := by omega
    generalize w.heap.size + 1 + ((na.and nb).and nx).objs.size = mb at *
    have hlen := HitsN_len S H8.out
    go_loopw [23] (fun i wr => ∃ (k n : Nat), k ≤ (HitsN S).length ∧ i = .int .i64 k ∧ n ≤ k ∧ Hid (MapN wr mb n (sumTo S k) ∧ Kept (fun b => b = mb) W1 wr)) (fun i _ => (HitsN S).length - (intOf i).toNat)
    case atStart => exact ⟨0, 0, by omega, rfl, by omega, by rw [sumTo_zero]; exact HC.out.1, Kept.refl _ _⟩
    case round =>
      obtain ⟨k, n, hk, rfl, hnk, HV⟩ := hrel
      have hgr : Grow w wr := HV.out.2.grow_of HC.out.2.1 (fun b hb => by subst hb; omega)
      have hbk : wr.blk w.heap.size = stA V S.num := by rw [HV.out.2.blk _ HC.out.2.2.2 (by omega)]; exact HC.out.2.2.1
      have hbl : w.heap.size < wr.heap.size := Nat.lt_of_lt_of_le HC.out.2.2.2 HV.out.2.size
      have hb0 : wr.cell? ⟨w.heap.size, 0, none⟩ = some V.objs.val := cell_in_blk hbk (stA_objs V S.num)
      have hml := HV.out.1.lt
      have HG := Lib.hid hgr
      clear hgr
      by_cases hlt : k < (HitsN S).length
      · obtain ⟨p1, p2⟩ := hit_pos (hits_in hlt)
        obtain ⟨c1, c2, _, _⟩ := creatureB_in p2
        have hne : sh.b ≠ mb := by
          intro e
          have h1 := HW.out.1.cell k 0 hlt (by decide)
          rw [e, HC.out.1.cell] at h1
          cases h1
        obtain ⟨q1, q2, q3, q4, _⟩ := (HW.out.1.kept HV.out.2 (fun _ => hne)).at (by decide) k hlt
        have HST := Lib.hid (sumTo_succ S k hlt)
        have HCB : Hid (countsB S (rowAt (HitsN S) k) = ((gt (rowAt S.objs (gt (rowAt (HitsN S) k) 0).toNat) 11 == 1) && (gt (rowAt S.objs (gt (rowAt (HitsN S) k) 0).toNat) 12 == 0))) := rfl
        obtain ⟨d, hd0⟩ := Int.eq_ofNat_of_zero_le c1
        rw [hd0] at HST HCB c2 p2
        have hd : d < S.objs.length := by omega
        rw [Int.toNat_natCast] at HCB
        have hN := (HRS.out.grow HG.out).rep.objs.len
        obtain ⟨hob, how, hosz, hosub, hocell⟩ := (HRS.out.grow HG.out).rep.objs.at (by decide) d hd
        have ho11 := hocell 11 (by decide)
        have ho12 := hocell 12 (by decide)
        have HIS : Hid (∀ W, Grow wr W → Calls Tryd.prog 14 #[.agg (stA V S.num), .int .i64 (d : Int)] W fun e w' => e = .returned (.bool true) ∧ Grow W w') := fun W g => by
          have := is_any S V W ((HRS.out.grow HG.out).grow g) d
          rw [p2] at this; exact this
        have hd' : (d : Int) < S.objs.length := by omega
        clear hocell hosub hosz p2 c1
        generalize hrow : rowAt (HitsN S) k = row at *
        have HROW := Lib.hid hrow
        clear hrow
        have hp0 : ¬ gt row 2 ≤ 0 := by omega
        generalize gt (rowAt S.objs d) 11 = f11 at *
        generalize gt (rowAt S.objs d) 12 = f12 at *
        cases h11 : (f11 == 1) with
        | false =>
          have HST2 : Hid (sumTo S (k + 1) = sumTo S k) := by rw [Hid, HST.out, HCB.out, h11]; rfl
          clear HST HCB
          go_wp2_with (go_at_call 14; refine (HIS.out _ (by repeat (first | exact Grow.refl _ | refine Grow.andr ?_ | refine Grow.plus ?_ _ | refine Grow.alloc ?_ _ | refine Grow.drew ?_ | refine Grow.drewN ?_ _))).mono ?_; rintro e' w' ⟨rfl, ni, rfl⟩)
          have HKP := Lib.hid (HV.out.2.trans (o2 := fun _ => False) (Grow.kept _ (show Grow wr ((wr.alloc (.cells (cellsOf row) 54)).plus ni) from (by repeat (first | exact Grow.refl _ | refine Grow.andr ?_ | refine Grow.plus ?_ _ | refine Grow.alloc ?_ _ | refine Grow.drew ?_ | refine Grow.drewN ?_ _)))) (fun _ _ h => h.elim))
          go_roundw
          case rel => exact ⟨k + 1, n, by omega, by go_num, by omega, by rw [HST2.out]; exact HV.out.1.grow (by repeat (first | exact Grow.refl _ | refine Grow.andr ?_ | refine Grow.plus ?_ _ | refine Grow.alloc ?_ _ | refine Grow.drew ?_ | refine Grow.drewN ?_ _)), HKP.out⟩
          case measure => simp [intOf]; omega
        | true =>
          cases h12 : (f12 == 0) with
          | false =>
            have HST2 : Hid (sumTo S (k + 1) = sumTo S k) := by rw [Hid, HST.out, HCB.out, h11, h12]; rfl
            clear HST HCB
            go_wp2_with (go_at_call 14; refine (HIS.out _ (by repeat (first | exact Grow.refl _ | refine Grow.andr ?_ | refine Grow.plus ?_ _ | refine Grow.alloc ?_ _ | refine Grow.drew ?_ | refine Grow.drewN ?_ _))).mono ?_; rintro e' w' ⟨rfl, ni, rfl⟩)
            have HKP := Lib.hid (HV.out.2.trans (o2 := fun _ => False) (Grow.kept _ (show Grow wr ((wr.alloc (.cells (cellsOf row) 54)).plus ni) from (by repeat (first | exact Grow.refl _ | refine Grow.andr ?_ | refine Grow.plus ?_ _ | refine Grow.alloc ?_ _ | refine Grow.drew ?_ | refine Grow.drewN ?_ _)))) (fun _ _ h => h.elim))
            go_roundw
            case rel => exact ⟨k + 1, n, by omega, by go_num, by omega, by rw [HST2.out]; exact HV.out.1.grow (by repeat (first | exact Grow.refl _ | refine Grow.andr ?_ | refine Grow.plus ?_ _ | refine Grow.alloc ?_ _ | refine Grow.drew ?_ | refine Grow.drewN ?_ _)), HKP.out⟩
            case measure => simp [intOf]; omega
          | true =>
            have HST2 : Hid (sumTo S (k + 1) = fun y => if y = (d : Int) then wrap64 (sumTo S k d + gt row 2) else sumTo S k y) := by rw [Hid, HST.out, HCB.out, h11, h12]; rfl
            clear HST HCB
            generalize sumTo S k = f at *
            have hdr : -9223372036854775808 ≤ (d : Int) ∧ (d : Int) ≤ 9223372036854775807 := by have := (HRS.out.small.objs); omega
            have HDR := Lib.hid hdr
            clear hdr
            go_wp2_with (first | (go_at_call 14; refine (HIS.out _ (by repeat (first | exact Grow.refl _ | refine Grow.andr ?_ | refine Grow.plus ?_ _ | refine Grow.alloc ?_ _ | refine Grow.drew ?_ | refine Grow.drewN ?_ _))).mono ?_; rintro e' w' ⟨rfl, ni, rfl⟩; have hlk := (HV.out.1.grow (show Grow wr ((wr.alloc (.cells (cellsOf row) 54)).plus ni) from (by repeat (first | exact Grow.refl _ | refine Grow.andr ?_ | refine Grow.plus ?_ _ | refine Grow.alloc ?_ _ | refine Grow.drew ?_ | refine Grow.drewN ?_ _)))).look d HDR.out) | (at_mapUpdate; refine wpList_updateN rfl _ _ _ rfl mb n f rfl (HV.out.1.grow (by repeat (first | exact Grow.refl _ | refine Grow.andr ?_ | refine Grow.plus ?_ _ | refine Grow.alloc ?_ _ | refine Grow.drew ?_ | refine Grow.drewN ?_ _))) (by unfold maxLen; omega) d (wrap64 (f d + gt row 2)) rfl rfl HDR.out (wrap64_in64 _) ?_; intro w2 hm2 hg2; have HM2 := Lib.hid (And.intro hm2 hg2); clear hm2 hg2))
            have hk2 : Kept (fun b => b = mb) ((wr.alloc (.cells (cellsOf row) 54)).plus ni) w2 := ⟨HM2.out.2.os, HM2.out.2.tape, HM2.out.2.output, HM2.out.2.size, fun q hq hn => HM2.out.2.block q hq (fun e => hn (by injection e))⟩
            have HKP := Lib.hid ((HV.out.2.trans (o2 := fun _ => False) (Grow.kept _ (show Grow wr ((wr.alloc (.cells (cellsOf row) 54)).plus ni) from (by repeat (first | exact Grow.refl _ | refine Grow.andr ?_ | refine Grow.plus ?_ _ | refine Grow.alloc ?_ _ | refine Grow.drew ?_ | refine Grow.drewN ?_ _)))) (fun _ _ h => h.elim)).trans (o2 := fun b => b = mb) hk2 (fun _ _ h => h))
            clear hk2
            go_roundw
            case rel => exact ⟨k + 1, n + 1, by omega, by go_num, by omega, by rw [HST2.out]; exact HM2.out.1, HKP.out⟩
            case measure => simp [intOf]; omega
      · have hkl : k = (HitsN S).length := by omega
        have HEND := Lib.hid (sumTo_end S k hkl)
        have hmap := HV.out.1
        generalize sumTo S k = f at *
        have HMAP := Lib.hid hmap
        clear hmap
        go_wp2_with (go_at_call 15; refine (attackers_any S V _ ((HRS.out.grow HG.out).grow (by repeat (first | exact Grow.refl _ | refine Grow.andr ?_ | refine Grow.plus ?_ _ | refine Grow.alloc ?_ _ | refine Grow.drew ?_ | refine Grow.drewN ?_ _)))).mono ?_; rintro e' W3 ⟨sa, rfl, hI, hg3⟩; have hsa := hI.len; have HA := Lib.hid (And.intro hI (show Grow wr W3 from Grow.trans (by repeat (first | exact Grow.refl _ | refine Grow.andr ?_ | refine Grow.plus ?_ _ | refine Grow.alloc ?_ _ | refine Grow.drew ?_ | refine Grow.drewN ?_ _)) hg3)); clear hI hg3)
        have hbk3 : W3.blk w.heap.size = stA V S.num := by rw [blk_grow HA.out.2 hbl]; exact hbk
        have hb03 : W3.cell? ⟨w.heap.size, 0, none⟩ = some V.objs.val := cell_in_blk hbk3 (stA_objs V S.num)
        have hbl3 : w.heap.size < W3.heap.size := Nat.lt_of_lt_of_le hbl HA.out.2.size
        have HR3 := Lib.hid ((HRS.out.grow HG.out).grow HA.out.2)
        have HM3 := Lib.hid (HMAP.out.grow HA.out.2)
        have hN := HR3.out.rep.objs.len
        have hal : (attackersN S).length ≤ 1000 := Nat.le_trans (List.length_filter_le _ _) H8.out
        clear hbk hb0 hbl hml HMAP
        go_loopw [66] (fun i w4 => ∃ j : Nat, j ≤ (attackersN S).length ∧ i = .int .i64 j ∧ Grow W3 w4) (fun i _ => (attackersN S).length - (intOf i).toNat)
        case atStart => exact ⟨0, by omega, rfl, (by repeat (first | exact Grow.refl _ | refine Grow.andr ?_ | refine Grow.plus ?_ _ | refine Grow.alloc ?_ _ | refine Grow.drew ?_ | refine Grow.drewN ?_ _))⟩
        case round =>
          obtain ⟨j, hj, rfl, z, rfl⟩ := hrel
          by_cases hjt : j < (attackersN S).length
          · obtain ⟨hlb, hlc⟩ := HA.out.1.at j hjt
            have hmem : gt (attackersN S) j ∈ attackersN S := by rw [gt_eq _ _ hjt]; exact List.getElem_mem hjt
            have hcr := attacks_creature (attackers_in hmem)
            have HSM : Hid (gt (rowAt S.objs (gt (attackersN S) j).toNat) 12 = 0 → f (gt (attackersN S) j) = max (gt (shapeN S (gt (attackersN S) j).toNat) 0) 0) := fun h => by
              rw [HEND.out, sums_plain HRS.out.right hmem h]
              have h1 : powerN S (gt (attackersN S) j) = max (gt (shapeN S (gt (attackersN S) j).toNat) 0) 0 := by rw [powerN, if_pos hcr]
              have h2 := powerN_range S (gt (attackersN S) j)
              rw [← h1]
              exact IntWalk.wrap64_in _ (by omega)
            obtain ⟨c1, c2, _, _⟩ := creatureB_in hcr
            generalize gt (attackersN S) j = id at *
            obtain ⟨d, rfl⟩ := Int.eq_ofNat_of_zero_le c1
            rw [Int.toNat_natCast] at HSM
            have hd : d < S.objs.length := by omega
            have hd' : (d : Int) < S.objs.length := by omega
            obtain ⟨hob, how, hosz, hosub, hocell⟩ := HR3.out.rep.objs.at (by decide) d hd
            have ho12 := hocell 12 (by decide)
            have HOF : Hid (∀ W, Grow W3 W → Calls Tryd.prog 16 #[.agg (stA V S.num), .int .i64 (d : Int)] W fun e w' => e = .returned (.tuple #[.agg (cellsOf (shapeN S d)), .nilIface]) ∧ Grow W w') := fun W g => by
              have := of_any S V W (HR3.out.grow g) d
              rw [ofV, if_pos hcr, Int.toNat_natCast] at this
              exact this
            have HDR : Hid (-9223372036854775808 ≤ (d : Int) ∧ (d : Int) ≤ 9223372036854775807) := by have := (HRS.out.small.objs); rw [Hid]; omega
            have hsl : (shapeN S d).length = 3 := rfl
            clear hocell hosub hosz hcr hmem c1 c2
            generalize gt (rowAt S.objs d) 12 = f12 at *
            cases h12 : (f12 == 0) with
            | false =>
              go_wp2_with (go_at_call 16; refine (HOF.out _ (by repeat (first | exact Grow.refl _ | refine Grow.andr ?_ | refine Grow.plus ?_ _ | refine Grow.alloc ?_ _ | refine Grow.drew ?_ | refine Grow.drewN ?_ _))).mono ?_; rintro e' w' ⟨rfl, no, rfl⟩)
              go_roundw
              case rel => exact ⟨j + 1, by omega, by go_num, (by repeat (first | exact Grow.refl _ | refine Grow.andr ?_ | refine Grow.plus ?_ _ | refine Grow.alloc ?_ _ | refine Grow.drew ?_ | refine Grow.drewN ?_ _))⟩
              case measure => simp [intOf]; omega
            | true =>
              have hval := HSM.out (by simpa using h12)
              go_wp2_with (go_at_call 16; refine (HOF.out _ (by repeat (first | exact Grow.refl _ | refine Grow.andr ?_ | refine Grow.plus ?_ _ | refine Grow.alloc ?_ _ | refine Grow.drew ?_ | refine Grow.drewN ?_ _))).mono ?_; rintro e' w' ⟨rfl, no, rfl⟩; have hlk := (HM3.out.grow (show Grow W3 ((W3.plus (z.and no)).alloc (.cells (cellsOf (shapeN S d)) 57)) from (by repeat (first | exact Grow.refl _ | refine Grow.andr ?_ | refine Grow.plus ?_ _ | refine Grow.alloc ?_ _ | refine Grow.drew ?_ | refine Grow.drewN ?_ _)))).look d HDR.out)
              go_roundw
              case rel => exact ⟨j + 1, by omega, by go_num, (by repeat (first | exact Grow.refl _ | refine Grow.andr ?_ | refine Grow.plus ?_ _ | refine Grow.alloc ?_ _ | refine Grow.drew ?_ | refine Grow.drewN ?_ _))⟩
              case measure => simp [intOf]; omega
          · go_wp2_with fail
            go_ret
            exact ⟨rfl, HG.out.trans (HA.out.2.trans (by repeat (first | exact Grow.refl _ | refine Grow.andr ?_ | refine Grow.plus ?_ _ | refine Grow.alloc ?_ _ | refine Grow.drew ?_ | refine Grow.drewN ?_ _)))⟩
  · have hb : (checkN S != 0) = true := by simpa using hck
    generalize checkN S = n at *
    clear R GL hsm hck
    go_enter Tryd.func4, Tryd.ntmps4
    go_wp2_with (first | (go_at_call 12; refine (HAl.out _ (by repeat (first | exact Grow.refl _ | refine Grow.andr ?_ | refine Grow.plus ?_ _ | refine Grow.alloc ?_ _ | refine Grow.drew ?_ | refine Grow.drewN ?_ _))).mono ?_; rintro e' w' ⟨rfl, nx, rfl⟩) | (go_at_call 6; refine (HLo.out _ (by repeat (first | exact Grow.refl _ | refine Grow.andr ?_ | refine Grow.plus ?_ _ | refine Grow.alloc ?_ _ | refine Grow.drew ?_ | refine Grow.drewN ?_ _))).mono ?_; rintro e' w' ⟨rfl, nx, rfl⟩) | (go_at_call 7; refine (HRef.out _ (by repeat (first | exact Grow.refl _ | refine Grow.andr ?_ | refine Grow.plus ?_ _ | refine Grow.alloc ?_ _ | refine Grow.drew ?_ | refine Grow.drewN ?_ _))).mono ?_; rintro e' w' ⟨rfl, nx, rfl⟩))
    go_ret
    exact ⟨rfl, (by repeat (first | exact Grow.refl _ | refine Grow.andr ?_ | refine Grow.plus ?_ _ | refine Grow.alloc ?_ _ | refine Grow.drew ?_ | refine Grow.drewN ?_ _))⟩
end Go.Proofs.YtmmkmhpchoelkaaDoor
