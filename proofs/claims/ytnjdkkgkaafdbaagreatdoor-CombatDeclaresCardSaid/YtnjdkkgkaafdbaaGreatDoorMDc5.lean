/-
  The document's Defend.
-/
import Derived.Test.YtnjdkkgkaafdbaaGreatDoorMDc3
import Derived.Test.YtnjdkkgkaafdbaaGreatDoorMDc4
namespace Go.Proofs.YtnjdkkgkaafdbaaGreatDoor
open Go Go.RowKit Go.Shelf

theorem seen_succ (l : List Int) (x : Int) (m : Nat) : x ∈ (List.range (m + 1)).map (fun i => gt l (2 * i)) ↔ x ∈ (List.range m).map (fun i => gt l (2 * i)) ∨ x = gt l (2 * m) := by
  rw [List.range_succ, List.map_append, List.mem_append]
  simp
theorem defend_odd {E : Em} {S : St} {l : List Int} (he : E.err = 0) (h : l.length % 2 = 1) : E.defend S l = E.fail 2 := by
  have h1 : E.odd l = E.fail 2 := by unfold Em.odd; rw [if_neg (by omega)]
  have h2 : (E.fail 2).err ≠ 0 := by rw [fail_err he]; decide
  unfold Em.defend
  rw [h1, fail_stays h2, if_neg h2]
set_option maxRecDepth 100000 in
set_option maxHeartbeats 8000000 in
theorem defend24_odd (w : World) (b : Nat) (own : Nat → Prop) (E : Em) (R : Gmt w b own E) (he : E.err = 0) (s : Sl) (l : List Int) (hI : Ints w s l) (hl : l.length ≤ 1000) (hod : l.length % 2 = 1) :
    Calls Tryz.prog 25 #[.pointer (some ⟨b, 0, none⟩), s.val] w fun r w' => r = .returned (.tuple #[]) ∧ DPost w b own (E.fail 2) w' := by
  have hsn := hI.len
  have hmd : ((l.length : Int) % 2 == 1) = true := by simp; omega
  obtain ⟨V, sd, se, sp, hr, ho⟩ := R
  obtain ⟨_, _, _, h40⟩ := hr.cells
  rw [he] at h40
  have hH := hr.host
  have hcell := cell_of_blk (hH).free (hH).blk; have hfz := frozen_of_free (hH).free; have hset := setCell_of_blk (hH).free (hH).blk; have hblk := (hH).blk; have hfree := (hH).free; have hlt := (hH).lt; have hne1 : ¬ b = (w).heap.size := (by omega); have hne2 : ¬ (w).heap.size = b := (by omega)
  have hs := hset 40 (I 2)
  rw [hoAg_s40] at hs
  have HR := Lib.hid hr
  have HO := Lib.hid ho
  rw [show E.fail 2 = { E with err := 2 } from if_pos he]
  clear hr ho hH hblk hset hcell hI hod
  go_enter Tryz.func25, Tryz.ntmps25
  go_wp2_with fail
  first | go_end0 | refine bodyPost_ret (results_none rfl _ _ _) rfl ?_
  exact ⟨rfl, Gmt.setErr HR.out HO.out 2 grI⟩
theorem defend24_bad (w : World) (b : Nat) (own : Nat → Prop) (E : Em) (R : Gmt w b own E) (he : E.err ≠ 0) (s : Value) :
    Calls Tryz.prog 25 #[.pointer (some ⟨b, 0, none⟩), s] w fun r w' => r = .returned (.tuple #[]) ∧ Grow w w' := by
  obtain ⟨h40, hlt⟩ := gmt_bad R
  have hb : (E.err != 0) = true := by simpa using he
  clear he R
  go_enter Tryz.func25, Tryz.ntmps25
  go_wp2_with fail
  refine bodyPost_ret (results_none rfl _ _ _) rfl ?_
  exact ⟨rfl, grI⟩
set_option maxRecDepth 100000 in
set_option maxHeartbeats 8000000 in
theorem defend24_even (T8 : Table08) (O : Of17) (w : World) (b : Nat) (own : Nat → Prop) (E : Em) (R : Gmt w b own E) (GL : Glob w) (hv : ∀ k, (k = 0 ∨ k = 1 ∨ k = 2) → ¬ own k) (F : Fi E.now 0 E) (s : Sl) (l : List Int) (hI : Ints w s l) (hs : 0 < l.length → ¬ own s.b) (hl : l.length ≤ 1000) (hev : l.length % 2 = 0) :
    Calls Tryz.prog 25 #[.pointer (some ⟨b, 0, none⟩), s.val] w fun r w' => r = .returned (.tuple #[]) ∧ DPost w b own (E.defend E.now l) w' := by
  have hown := R.lt
  have hsn := hI.len
  have hmd : ((l.length : Int) % 2 == 1) = false := by simp; omega
  have HR := Lib.hid R
  have HF := Lib.hid F
  have HT8 := Lib.hid T8
  have HO17 := Lib.hid O
  have HOL := Lib.hid hown
  have HI := Lib.hid hI
  have HS := Lib.hid hs
  have HDf : Hid (E.defend E.now l = if (E.fail (defS E.now l (List.range (l.length / 2))).1).err = 0 then E.blocks l (l.length / 2) else E.fail (defS E.now l (List.range (l.length / 2))).1) := by
    have h1 : E.odd l = E := if_pos hev
    have h2 : (l.length + 1) / 2 = l.length / 2 := by omega
    rw [Hid, Em.defend, h1, h2]
  obtain ⟨N, hN⟩ : ∃ N, N = l.length / 2 := ⟨_, rfl⟩
  rw [← hN] at HDf
  have hN2 : 2 * N ≤ l.length ∧ l.length ≤ 2 * N := by omega
  obtain ⟨V, sd, se, sp, hr, ho⟩ := R
  obtain ⟨_, _, _, h40⟩ := hr.cells
  rw [F.err] at h40
  have hbk := hr.host.blk
  have hlt := hr.host.lt
  have HD0 := Lib.hid (SideG.of_em hr F.right F.small GL hv)
  clear hr ho F hown GL hv O T8 hI hs hN hev
  go_enter Tryz.func25, Tryz.ntmps25
  go_wp2_with fail
  have hb : BaseG (w.alloc (.cells (stA V E.now.num) 29)) b own E.now V w.heap.size s l := by
    have hg : Grow w (w.alloc (.cells (stA V E.now.num) 29)) := grI
    refine ⟨HD0.out.grow hlt hg, by rw [alloc_size']; omega, by go_simp, by go_simp, by go_simp, fun h => by have := HOL.out _ h; omega, HI.out.grow hg, fun hl0 => ⟨HS.out hl0, by have := (HI.out.at 0 hl0).1; rw [alloc_size']; omega⟩⟩
  have hG1 : Grow w (w.alloc (.cells (stA V E.now.num) 29)) := grI
  have HR1 := Lib.hid (HR.out.grow (w' := w.alloc (.cells (stA V E.now.num) 29)) grI)
  have HB1 := Lib.hid hb
  have HG1 := Lib.hid hG1
  clear hb hG1 hbk h40 HD0
  generalize w.alloc (.cells (stA V E.now.num) 29) = W1 at *
  go_loopw [5] (fun i wr => ∃ (k a : Nat) (own2 : Nat → Prop), a = 2 * k ∧ k ≤ N ∧ i = .int .i64 (a : Int) ∧ TurnG W1 b own (E.fail (defS E.now l (List.range k)).1) wr own2) (fun i _ => l.length + 2 - (intOf i).toNat)
  case atStart => exact ⟨0, 0, own, rfl, by omega, rfl, by rw [show (defS E.now l (List.range 0)).1 = 0 from rfl, fail_z]; exact TurnG.first HR1.out⟩
  case round =>
    obtain ⟨k, a, own2, ha, hk, rfl, hT⟩ := hrel
    have HT := Lib.hid hT
    have HBk := Lib.hid (hT.base HB1.out)
    clear hT
    by_cases hlt2 : k < N
    · obtain ⟨hlb, hlc⟩ := HBk.out.ints.at (2 * k) (by omega)
      obtain ⟨_, hld⟩ := HBk.out.ints.at (2 * k + 1) (by omega)
      have hqb := HBk.out.blk
      have hql := HBk.out.lt
      have hqc := cell_of_blk HBk.out.free HBk.out.blk
      have HCd : Hid (E.fail (defS E.now l (List.range (k + 1))).1 = (E.fail (defS E.now l (List.range k)).1).fail (codeD E.now l (defS E.now l (List.range k)).2 k)) := by
        rw [Hid, fail_fail, List.range_succ, defS_snoc]; rfl
      rw [defS_seen] at HCd
      have HCF : Hid (codeD E.now l ((List.range k).map fun m => gt l (2 * m)) k = firstOf (firstOf (firstOf (firstOf (if creatureB E.now (gt l (2 * k)) = true then 0 else 12) (if (!creatureB E.now (gt l (2 * k)) || fldN E.now (gt l (2 * k)) 2 == 1 - E.now.num 19) = true then 0 else 9)) (if (!decide (gt l (2 * k) ∈ (List.range k).map fun m => gt l (2 * m))) = true then 0 else 8)) (if attacksB E.now (gt l (2 * k + 1)) = true then 0 else 11)) (if stopsB E.now (gt l (2 * k)) (gt l (2 * k + 1)) = true then 0 else 6)) := rfl
      have HFa := Lib.hid (fun W (g : Grow wr W) n => gfail_any W b own2 _ (HT.out.em.grow g) n)
      have HIs := Lib.hid (show ∀ W, Grow wr W → ∀ x u, (x = gt l (2 * k) ∧ u = creatureB E.now (gt l (2 * k))) ∨ (x = gt l (2 * k + 1) ∧ u = creatureB E.now (gt l (2 * k + 1))) → Calls Tryz.prog 36 #[.agg (stA V E.now.num), .int .i64 x] W fun e w' => e = .returned (.bool u) ∧ Grow W w' from fun W g x u hx => by
        rcases hx with ⟨rfl, rfl⟩ | ⟨rfl, rfl⟩ <;> exact is24_good HT8.out E.now V W (HBk.out.side.grow HBk.out.at' g).rs _)
      have HSs := Lib.hid (fun W (g : Grow wr W) => stops24_good HT8.out HO17.out E.now V W (HBk.out.side.grow HBk.out.at' g).rs (gt l (2 * k)) (gt l (2 * k + 1)))
      have hact := HF.out.right.active
      have hwf : wrap64 (1 - E.now.num 19) = 1 - E.now.num 19 := by unfold wrap64; omega
      obtain ⟨a1, ha1⟩ : ∃ a1 : Nat, a1 = 2 * k + 1 := ⟨_, rfl⟩
      obtain ⟨a2, ha2⟩ : ∃ a2 : Nat, a2 = a + 2 := ⟨_, rfl⟩
      have hi0 : ((a : Int) < (l.length : Int)) = True := by simp; omega
      have hi1 : (a : Int) + 1 < (l.length : Int) := by omega
      have hi2 : ((a : Int) + 1).toNat = a1 := by omega
      have hi3 : (a : Int) < (l.length : Int) := by omega
      have hi5 : (0 : Int) ≤ (a : Int) + 1 := by omega
      generalize hid : gt l (2 * k) = id at *
      have HId := Lib.hid hid
      have HA := Lib.hid ha
      have HA2 := Lib.hid ha2
      clear hid
      generalize gt l (2 * k + 1) = aa at *
      rw [← ha] at hlc
      rw [← ha1] at hld
      clear ha ha2 ha1 hact
      generalize codeD E.now l ((List.range k).map fun m => gt l (2 * m)) k = cF at *
      generalize E.fail (defS E.now l (List.range k)).1 = Ek at *
      go_wp2_with fail
      refine wp_region_grow (by kernel_rfl) (by kernel_rfl) ?_; (repeat (go_big_quiet_step ( fail ))); refine wpQuiet_nil ?_; rintro _ ⟨nx, rfl⟩
      cases hc : creatureB E.now id with
      | false =>
        rw [hc] at HCF HIs
        have HC2 : Hid (cF = 12) := by rw [Hid, HCF.out]; simp [firstOf]
        clear hc HCF HSs
        go_wp2_with (go_at_call 36; refine (HIs.out _ grI _ _ (by first | exact .inl ⟨rfl, rfl⟩ | exact .inr ⟨rfl, rfl⟩)).mono ?_; rintro e' w' ⟨rfl, nx, rfl⟩)
        go_loopw [8, 9] (fun v j w6 => v = .int .i64 12 ∧ j = .int .i64 0 ∧ Grow wr w6) (fun _ _ _ => 0)
        case atStart => exact ⟨rfl, rfl, grI⟩
        case round =>
          obtain ⟨rfl, rfl, x, rfl⟩ := hrel
          rcases Nat.eq_zero_or_pos a with h0 | h0
          · have h0' : ((0 : Int) < (a : Int)) = False := by simp; omega
            go_wp2_with fail
            refine (HFa.out _ grI _).mono ?_
            rintro e' w7 ⟨rfl, hE⟩
            obtain ⟨own3, T3⟩ := HT.out.step grI hE
            have HT3 := Lib.hid T3
            clear hE T3
            go_wp2_with fail
            go_roundw
            case rel => exact ⟨k + 1, a2, own3, by have := HA2.out; have := HA.out; omega, by omega, by congr 1; have := HA2.out; omega, by rw [HCd.out, HC2.out]; exact HT3.out⟩
            case measure => have := HA2.out; simp [intOf]; omega
          · have h0' : ((0 : Int) < (a : Int)) = True := by simp; omega
            go_wp2_with fail
            refine (HFa.out _ grI _).mono ?_
            rintro e' w7 ⟨rfl, hE⟩
            obtain ⟨own3, T3⟩ := HT.out.step grI hE
            have HT3 := Lib.hid T3
            clear hE T3
            go_wp2_with fail
            go_roundw
            case rel => exact ⟨k + 1, a2, own3, by have := HA2.out; have := HA.out; omega, by omega, by congr 1; have := HA2.out; omega, by rw [HCd.out, HC2.out]; exact HT3.out⟩
            case measure => have := HA2.out; simp [intOf]; omega
      | true =>
        obtain ⟨c1, c2, _, _⟩ := creatureB_in hc
        obtain ⟨d, rfl⟩ := Int.eq_ofNat_of_zero_le c1
        have hd : d < E.now.objs.length := by omega
        have hN9 := HBk.out.side.rs.rep.objs.len
        obtain ⟨ob, _, _, _, oc⟩ := HBk.out.side.rs.rep.objs.at (by omega) d hd
        have oc2 := oc 2 (by decide)
        have hdi : (d : Int) < (E.now.objs.length : Int) := by omega
        rw [hc] at HCF HIs
        simp only [Bool.not_true, Bool.false_or, if_true] at HCF
        unfold fldN at HCF
        rw [Int.toNat_natCast] at HCF
        generalize gt (rowAt E.now.objs d) 2 = f2 at *
        clear hc c1 c2 oc
        cases h2 : (f2 == 1 - E.now.num 19) with
        | false =>
          rw [h2] at HCF
          have h2' : (f2 != 1 - E.now.num 19) = true := by rw [bne, h2]; rfl
          have HC2 : Hid (cF = 9) := by rw [Hid, HCF.out]; simp [firstOf]
          clear HCF HSs
          go_wp2_with (go_at_call 36; refine (HIs.out _ grI _ _ (by first | exact .inl ⟨rfl, rfl⟩ | exact .inr ⟨rfl, rfl⟩)).mono ?_; rintro e' w' ⟨rfl, nx, rfl⟩)
          refine wp_region_grow (by kernel_rfl) (by kernel_rfl) ?_; (repeat (go_big_quiet_step ( fail ))); refine wpQuiet_nil ?_; rintro _ ⟨nx, rfl⟩
          go_wp2_with fail
          go_loopw [8, 9] (fun v j w6 => v = .int .i64 9 ∧ j = .int .i64 0 ∧ Grow wr w6) (fun _ _ _ => 0)
          case atStart => exact ⟨rfl, rfl, grI⟩
          case round =>
            obtain ⟨rfl, rfl, x, rfl⟩ := hrel
            rcases Nat.eq_zero_or_pos a with h0 | h0
            · have h0' : ((0 : Int) < (a : Int)) = False := by simp; omega
              go_wp2_with fail
              refine (HFa.out _ grI _).mono ?_
              rintro e' w7 ⟨rfl, hE⟩
              obtain ⟨own3, T3⟩ := HT.out.step grI hE
              have HT3 := Lib.hid T3
              clear hE T3
              go_wp2_with fail
              go_roundw
              case rel => exact ⟨k + 1, a2, own3, by have := HA2.out; have := HA.out; omega, by omega, by congr 1; have := HA2.out; omega, by rw [HCd.out, HC2.out]; exact HT3.out⟩
              case measure => have := HA2.out; simp [intOf]; omega
            · have h0' : ((0 : Int) < (a : Int)) = True := by simp; omega
              go_wp2_with fail
              refine (HFa.out _ grI _).mono ?_
              rintro e' w7 ⟨rfl, hE⟩
              obtain ⟨own3, T3⟩ := HT.out.step grI hE
              have HT3 := Lib.hid T3
              clear hE T3
              go_wp2_with fail
              go_roundw
              case rel => exact ⟨k + 1, a2, own3, by have := HA2.out; have := HA.out; omega, by omega, by congr 1; have := HA2.out; omega, by rw [HCd.out, HC2.out]; exact HT3.out⟩
              case measure => have := HA2.out; simp [intOf]; omega
        | true =>
          rw [h2] at HCF
          have h2' : (f2 != 1 - E.now.num 19) = false := by rw [bne, h2]; rfl
          simp only [if_true] at HCF
          go_wp2_with (go_at_call 36; refine (HIs.out _ grI _ _ (by first | exact .inl ⟨rfl, rfl⟩ | exact .inr ⟨rfl, rfl⟩)).mono ?_; rintro e' w' ⟨rfl, nx, rfl⟩)
          refine wp_region_grow (by kernel_rfl) (by kernel_rfl) ?_; (repeat (go_big_quiet_step ( fail ))); refine wpQuiet_nil ?_; rintro _ ⟨nx, rfl⟩
          go_wp2_with fail
          clear h2 h2'
          go_loopw [8, 9] (fun v j w6 => ∃ m c : Nat, c = 2 * m ∧ m ≤ k ∧ j = .int .i64 (c : Int) ∧ ((v = .int .i64 0 ∧ ¬ (d : Int) ∈ (List.range m).map fun i => gt l (2 * i)) ∨ (v = .int .i64 8 ∧ (d : Int) ∈ (List.range k).map fun i => gt l (2 * i))) ∧ Grow wr w6) (fun _ j _ => 2 * k + 2 - (intOf j).toNat)
          case atStart => exact ⟨0, 0, rfl, by omega, rfl, .inl ⟨rfl, by simp⟩, grI⟩
          case round =>
            obtain ⟨m, c, hcm, hm, rfl, hv, x, rfl⟩ := hrel
            obtain ⟨c2, hc2⟩ : ∃ c2 : Nat, c2 = c + 2 := ⟨_, rfl⟩
            have HCm := Lib.hid (And.intro hcm hc2)
            rcases hv with ⟨rfl, hno⟩ | ⟨rfl, hyes⟩
            · by_cases hlt3 : m < k
              · obtain ⟨hmb, hmc⟩ := HBk.out.ints.at (2 * m) (by omega)
                have hck : ((c : Int) < (a : Int)) = True := by have := HA.out; simp; omega
                have hml : (c : Int) < (l.length : Int) := by omega
                have hsuc := seen_succ l (d : Int) m
                by_cases hx : gt l (2 * m) = (d : Int)
                · have HY := Lib.hid (show (d : Int) ∈ (List.range k).map fun i => gt l (2 * i) from List.mem_map.2 ⟨m, List.mem_range.2 hlt3, hx⟩)
                  rw [hx, ← hcm] at hmc
                  clear hsuc hno hx hcm hc2
                  go_wp2_with fail
                  go_roundw
                  case rel => exact ⟨m + 1, c2, by have := HCm.out; omega, by omega, by congr 1; have := HCm.out; omega, .inr ⟨rfl, HY.out⟩, grI⟩
                  case measure => have := HCm.out; simp [intOf]; omega
                · have hx2 : (gt l (2 * m) == (d : Int)) = false := by simpa using hx
                  have HN := Lib.hid (show ¬ (d : Int) ∈ (List.range (m + 1)).map fun i => gt l (2 * i) from fun h => by
                    rcases hsuc.1 h with h | h
                    · exact hno h
                    · exact hx h.symm)
                  generalize gt l (2 * m) = y at *
                  rw [← hcm] at hmc
                  clear hsuc hno hx hcm hc2
                  go_wp2_with fail
                  go_roundw
                  case rel => exact ⟨m + 1, c2, by have := HCm.out; omega, by omega, by congr 1; have := HCm.out; omega, .inl ⟨rfl, HN.out⟩, grI⟩
                  case measure => have := HCm.out; simp [intOf]; omega
              · have hke : m = k := by omega
                subst hke
                have hck : ((c : Int) < (a : Int)) = False := by have := HA.out; simp; omega
                have HCG : Hid (cF = firstOf (if attacksB E.now aa = true then 0 else 11) (if stopsB E.now d aa = true then 0 else 6)) := by
                  rw [Hid, HCF.out, if_pos (by simpa using hno)]; rfl
                have HAt : Hid (attacksB E.now aa = (creatureB E.now aa && (gt (rowAt E.now.objs aa.toNat) 11 == 1))) := rfl
                clear HCF hno hcm hc2
                cases hca : creatureB E.now aa with
                | false =>
                  rw [hca, Bool.false_and] at HAt
                  rw [hca] at HIs
                  have HC2 : Hid (cF = 11) := by rw [Hid, HCG.out, HAt.out]; simp [firstOf]
                  clear HCG HAt hca HSs
                  go_wp2_with (go_at_call 36; refine (HIs.out _ grI _ _ (by first | exact .inl ⟨rfl, rfl⟩ | exact .inr ⟨rfl, rfl⟩)).mono ?_; rintro e' w' ⟨rfl, nx, rfl⟩)
                  refine (HFa.out _ grI _).mono ?_
                  rintro e' w7 ⟨rfl, hE⟩
                  obtain ⟨own3, T3⟩ := HT.out.step grI hE
                  have HT3 := Lib.hid T3
                  clear hE T3
                  go_wp2_with fail
                  go_roundw
                  case rel => exact ⟨m + 1, a2, own3, by have := HA2.out; have := HA.out; omega, by omega, by congr 1; have := HA2.out; omega, by rw [HCd.out, HC2.out]; exact HT3.out⟩
                  case measure => have := HA2.out; simp [intOf]; omega
                | true =>
                  obtain ⟨e1, e2, _, _⟩ := creatureB_in hca
                  obtain ⟨n, rfl⟩ := Int.eq_ofNat_of_zero_le e1
                  have hn : n < E.now.objs.length := by omega
                  obtain ⟨_, _, _, _, ac⟩ := HBk.out.side.rs.rep.objs.at (by omega) n hn
                  have ac11 := ac 11 (by decide)
                  have hni : (n : Int) < (E.now.objs.length : Int) := e2
                  rw [hca, Bool.true_and, Int.toNat_natCast] at HAt
                  rw [hca] at HIs
                  generalize gt (rowAt E.now.objs n) 11 = u11 at *
                  clear ac e1 e2 hca
                  cases h11 : (u11 == 1) with
                  | false =>
                    rw [h11] at HAt
                    have h11' : (u11 != 1) = true := by rw [bne, h11]; rfl
                    have HC2 : Hid (cF = 11) := by rw [Hid, HCG.out, HAt.out]; simp [firstOf]
                    clear HCG HAt HSs
                    go_wp2_with (go_at_call 36; refine (HIs.out _ grI _ _ (by first | exact .inl ⟨rfl, rfl⟩ | exact .inr ⟨rfl, rfl⟩)).mono ?_; rintro e' w' ⟨rfl, nx, rfl⟩)
                    refine (HFa.out _ grI _).mono ?_
                    rintro e' w7 ⟨rfl, hE⟩
                    obtain ⟨own3, T3⟩ := HT.out.step grI hE
                    have HT3 := Lib.hid T3
                    clear hE T3
                    go_wp2_with fail
                    go_roundw
                    case rel => exact ⟨m + 1, a2, own3, by have := HA2.out; have := HA.out; omega, by omega, by congr 1; have := HA2.out; omega, by rw [HCd.out, HC2.out]; exact HT3.out⟩
                    case measure => have := HA2.out; simp [intOf]; omega
                  | true =>
                    rw [h11] at HAt
                    have h11' : (u11 != 1) = false := by rw [bne, h11]; rfl
                    cases hst : stopsB E.now (d : Int) (n : Int) with
                    | false =>
                      rw [hst] at HSs
                      have HC2 : Hid (cF = 6) := by rw [Hid, HCG.out, HAt.out, hst]; simp [firstOf]
                      clear HCG HAt hst
                      go_wp2_with (first | (go_at_call 36; refine (HIs.out _ grI _ _ (by first | exact .inl ⟨rfl, rfl⟩ | exact .inr ⟨rfl, rfl⟩)).mono ?_; rintro e' w' ⟨rfl, nx, rfl⟩) | (go_at_call 14; refine (HSs.out _ grI).mono ?_; rintro e' w' ⟨rfl, nx, rfl⟩))
                      refine (HFa.out _ grI _).mono ?_
                      rintro e' w7 ⟨rfl, hE⟩
                      obtain ⟨own3, T3⟩ := HT.out.step grI hE
                      have HT3 := Lib.hid T3
                      clear hE T3
                      go_wp2_with fail
                      go_roundw
                      case rel => exact ⟨m + 1, a2, own3, by have := HA2.out; have := HA.out; omega, by omega, by congr 1; have := HA2.out; omega, by rw [HCd.out, HC2.out]; exact HT3.out⟩
                      case measure => have := HA2.out; simp [intOf]; omega
                    | true =>
                      rw [hst] at HSs
                      have HC2 : Hid (cF = 0) := by rw [Hid, HCG.out, HAt.out, hst]; simp [firstOf]
                      clear HCG HAt hst
                      go_wp2_with (first | (go_at_call 36; refine (HIs.out _ grI _ _ (by first | exact .inl ⟨rfl, rfl⟩ | exact .inr ⟨rfl, rfl⟩)).mono ?_; rintro e' w' ⟨rfl, nx, rfl⟩) | (go_at_call 14; refine (HSs.out _ grI).mono ?_; rintro e' w' ⟨rfl, nx, rfl⟩))
                      refine (HFa.out _ grI _).mono ?_
                      rintro e' w7 ⟨rfl, hE⟩
                      obtain ⟨own3, T3⟩ := HT.out.step grI hE
                      have HT3 := Lib.hid T3
                      clear hE T3
                      go_wp2_with fail
                      go_roundw
                      case rel => exact ⟨m + 1, a2, own3, by have := HA2.out; have := HA.out; omega, by omega, by congr 1; have := HA2.out; omega, by rw [HCd.out, HC2.out]; exact HT3.out⟩
                      case measure => have := HA2.out; simp [intOf]; omega
            · have HC2 : Hid (cF = 8) := by
                rw [Hid, HCF.out, if_neg (by simpa using hyes)]; rfl
              clear HCF hyes HSs hcm hc2
              by_cases hlt3 : m < k
              · have hck : ((c : Int) < (a : Int)) = True := by have := HA.out; have := HCm.out; simp; omega
                go_wp2_with fail
                refine (HFa.out _ grI _).mono ?_
                rintro e' w7 ⟨rfl, hE⟩
                obtain ⟨own3, T3⟩ := HT.out.step grI hE
                have HT3 := Lib.hid T3
                clear hE T3
                go_wp2_with fail
                go_roundw
                case rel => exact ⟨k + 1, a2, own3, by have := HA2.out; have := HA.out; omega, by omega, by congr 1; have := HA2.out; omega, by rw [HCd.out, HC2.out]; exact HT3.out⟩
                case measure => have := HA2.out; simp [intOf]; omega
              · have hck : ((c : Int) < (a : Int)) = False := by have := HA.out; have := HCm.out; simp; omega
                go_wp2_with fail
                refine (HFa.out _ grI _).mono ?_
                rintro e' w7 ⟨rfl, hE⟩
                obtain ⟨own3, T3⟩ := HT.out.step grI hE
                have HT3 := Lib.hid T3
                clear hE T3
                go_wp2_with fail
                go_roundw
                case rel => exact ⟨k + 1, a2, own3, by have := HA2.out; have := HA.out; omega, by omega, by congr 1; have := HA2.out; omega, by rw [HCd.out, HC2.out]; exact HT3.out⟩
                case measure => have := HA2.out; simp [intOf]; omega
    · have hke : k = N := by omega
      subst hke
      have hia : ((a : Int) < (l.length : Int)) = False := by simp; omega
      clear hlt2 hk ha
      by_cases hz : (defS E.now l (List.range k)).1 = 0
      · have HFt : Hid (E.defend E.now l = E.blocks l k) := by
          rw [Hid, HDf.out, hz, fail_z, if_pos HF.out.err]
        rw [hz, fail_z] at HT
        have HFb := Lib.hid (fun j (hj : j ≤ k) => Fi.blocks (m0 := 0) (by omega) HF.out.right HF.out hl (by omega) hz j hj)
        have HAa := Lib.hid (fun j (hj : j < k) => defend_facts (defS_zero E.now l k hz j hj))
        clear hz
        go_wp2_with fail
        go_loopw [10] (fun i wr => ∃ (k2 c : Nat) (own3 : Nat → Prop), c = 2 * k2 ∧ k2 ≤ k ∧ i = .int .i64 (c : Int) ∧ TurnG W1 b own (E.blocks l k2) wr own3) (fun i _ => l.length + 2 - (intOf i).toNat)
        case atStart => exact ⟨0, 0, own2, rfl, by omega, rfl, HT.out⟩
        case round =>
          obtain ⟨k2, c, own3, hc, hk2, rfl, hT⟩ := hrel
          have HT3 := Lib.hid hT
          have HB3 := Lib.hid (hT.base HB1.out)
          clear hT
          obtain ⟨h40k, hbw⟩ := gmt_bad HT3.out.em
          have hFk := HFb.out k2 hk2
          rw [hFk.err] at h40k
          by_cases hlt : k2 < k
          · obtain ⟨hlb, hlc⟩ := HB3.out.ints.at (2 * k2) (by omega)
            obtain ⟨_, hld⟩ := HB3.out.ints.at (2 * k2 + 1) (by omega)
            obtain ⟨hcr, hat⟩ := HAa.out k2 hlt
            have HBl : Hid (E.blocks l (k2 + 1) = (E.blocks l k2).setObj (gt l (2 * k2)) 12 (gt l (2 * k2 + 1) + 1)) := rfl
            generalize gt l (2 * k2) = id at *
            generalize gt l (2 * k2 + 1) = aa at *
            obtain ⟨c1, c2, c3, _⟩ := creatureB_in hcr
            obtain ⟨d, rfl⟩ := Int.eq_ofNat_of_zero_le c1
            have hd : d < E.now.objs.length := by omega
            obtain ⟨e1, e2, _⟩ := creatureB_in (attacksB_creature hat)
            have h400 := HF.out.right.many
            generalize E.blocks l k2 = Ek at *
            have HSet := Lib.hid (show ∀ W, Grow wr W → Calls Tryz.prog 50 #[.pointer (some ⟨b, 0, none⟩), .int .i64 (d : Int), .int .i64 12, .int .i64 (aa + 1)] W fun r w' => r = .returned (.tuple #[]) ∧ DPost W b own3 (Ek.setObj d 12 (aa + 1)) w' from fun W g => gset_any W b own3 _ (HT3.out.em.grow g) hFk.small (fun _ => by have := hFk.evs; omega) d 12 (aa + 1) (by rw [hFk.len]; exact hd) (by decide) (by decide) (by omega))
            obtain ⟨a1, ha1⟩ : ∃ a1 : Nat, a1 = 2 * k2 + 1 := ⟨_, rfl⟩
            obtain ⟨a2, ha2⟩ : ∃ a2 : Nat, a2 = c + 2 := ⟨_, rfl⟩
            have hi0 : ((c : Int) < (l.length : Int)) = True := by simp; omega
            have hi1 : (c : Int) + 1 < (l.length : Int) := by omega
            have hi2 : ((c : Int) + 1).toNat = a1 := by omega
            have hi3 : (c : Int) < (l.length : Int) := by omega
            have hi5 : (0 : Int) ≤ (c : Int) + 1 := by omega
            have hw2 : wrap64 (aa + 1) = aa + 1 := by unfold wrap64; omega
            rw [← hc] at hlc
            rw [← ha1] at hld
            have HA := Lib.hid (And.intro hc ha2)
            clear hFk c1 c2 c3 e1 e2 h400 hcr hat hc ha1 ha2
            go_wp2_with fail
            refine wp_region_order [0, 1, 2, 3, 4, 5, 6, 7, 8, 9, 10] 11 [] (by kernel_rfl) (by kernel_rfl) ?_; simp only [pickO, List.getElem?_cons_zero, List.getElem?_cons_succ]; (repeat (go_big_quiet_step ( fail ))); refine wpQuiet_nil ?_; rintro _ ⟨nx, rfl⟩
            go_wp2_with fail
            refine (HSet.out _ grI).mono ?_
            rintro e' w3 ⟨rfl, hE⟩
            obtain ⟨own4, T4⟩ := HT3.out.step grI hE
            have HT4 := Lib.hid T4
            clear hE T4 hlb hlc hld h40k
            go_wp2_with fail
            go_roundw
            case rel => exact ⟨k2 + 1, a2, own4, by have := HA.out; omega, by omega, by congr 1; have := HA.out; omega, by rw [HBl.out]; exact HT4.out⟩
            case measure => have := HA.out; simp [intOf]; omega
          · have hke : k2 = k := by omega
            subst hke
            have hic : ((c : Int) < (l.length : Int)) = False := by simp; omega
            clear hFk
            go_wp2_with fail
            go_end0
            exact ⟨rfl, by rw [HFt.out]; exact (HT3.out.post HG1.out).more grI⟩
      · have HFt : Hid (E.defend E.now l = E.fail (defS E.now l (List.range k)).1) := by
          rw [Hid, HDf.out, if_neg (by rw [fail_err HF.out.err]; exact hz)]
        obtain ⟨h40k, hbw⟩ := gmt_bad HT.out.em
        rw [fail_err HF.out.err] at h40k
        have hzb : ((defS E.now l (List.range k)).1 == 0) = false := by simpa using hz
        generalize E.fail (defS E.now l (List.range k)).1 = Ef at *
        generalize (defS E.now l (List.range k)).1 = z at *
        clear hz
        by_cases hpos : 0 < l.length
        · have hi0 : ((0 : Int) < (l.length : Int)) = True := by simp; omega
          go_wp2_with fail
          go_loopw [10] (fun i w6 => i = .int .i64 0 ∧ Grow wr w6) (fun _ _ => 0)
          case atStart => exact ⟨rfl, grI⟩
          case round =>
            obtain ⟨rfl, x, rfl⟩ := hrel
            go_wp2_with fail
            go_end0
            exact ⟨rfl, by rw [HFt.out]; exact (HT.out.post HG1.out).more grI⟩
        · have hi0 : ((0 : Int) < (l.length : Int)) = False := eq_false (by omega)
          go_wp2_with fail
          go_loopw [10] (fun i w6 => i = .int .i64 0 ∧ Grow wr w6) (fun _ _ => 0)
          case atStart => exact ⟨rfl, grI⟩
          case round =>
            obtain ⟨rfl, x, rfl⟩ := hrel
            go_wp2_with fail
            go_end0
            exact ⟨rfl, by rw [HFt.out]; exact (HT.out.post HG1.out).more grI⟩
end Go.Proofs.YtnjdkkgkaafdbaaGreatDoor
