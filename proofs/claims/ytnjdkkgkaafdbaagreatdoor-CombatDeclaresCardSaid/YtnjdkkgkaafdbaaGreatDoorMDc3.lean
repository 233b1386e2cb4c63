/-
  Declaring attackers: the document's May and Fight.
-/
import Derived.Test.YtnjdkkgkaafdbaaGreatDoorMDc1
import Derived.Test.YtnjdkkgkaafdbaaGreatDoorMSide
import Derived.Test.YtnjdkkgkaafdbaaGreatDoorMRc1
import Derived.Test.YtnjdkkgkaafdbaaGreatDoorMF3
namespace Go.Proofs.YtnjdkkgkaafdbaaGreatDoor
open Go Go.RowKit Go.Shelf

theorem Right.bit {S : St} (h : Right S) {d : Nat} (hd : d < S.objs.length) : (gt (rowAt S.objs d) 5 == 0) = !(gt (rowAt S.objs d) 5 == 1) := by
  have h1 : 0 ≤ gt (rowAt S.objs d) 5 ∧ gt (rowAt S.objs d) 5 ≤ 1 := h.num hd (f := 5) (by decide)
  have : gt (rowAt S.objs d) 5 = 0 ∨ gt (rowAt S.objs d) 5 = 1 := by omega
  rcases this with e | e <;> rw [e] <;> rfl
set_option maxRecDepth 100000 in
set_option maxHeartbeats 4000000 in
theorem may24_good (T8 : Table08) (O : Of17) (S : St) (V : SV) (w : World) (h : RS S V w) (id : Int) :
    Calls Tryz.prog 27 #[.agg (stA V S.num), .int .i64 id] w fun e w' => e = .returned (.bool (mayB S id)) ∧ Grow w w' := by
  have HI := Lib.hid (fun W (g : Grow w W) => is24_good T8 S V W (h.grow g) id)
  have HB : Hid (mayB S id = (creatureB S id && (fldN S id 2 == S.num 19) && ((fldN S id 4 == 0) && !((fldN S id 5 == 1) && !hasB S id 4) && !hasB S id 128))) := rfl
  have hN := h.rep.objs.len
  cases hc : creatureB S id with
  | false =>
    rw [hc] at HB HI
    clear hc h
    go_enter Tryz.func27, Tryz.ntmps27
    go_wp2_with (go_at_call 36; refine (HI.out _ grI).mono ?_; rintro e' w' ⟨rfl, nx, rfl⟩)
    go_ret
    exact ⟨ret_bool (by rw [HB.out]; simp), grI⟩
  | true =>
    obtain ⟨c1, c2, _, _⟩ := creatureB_in hc
    obtain ⟨d, rfl⟩ := Int.eq_ofNat_of_zero_le c1
    have hd : d < S.objs.length := by omega
    obtain ⟨ob, ow, osz, osub, _⟩ := h.rep.objs.at (by omega) d hd
    have hb5 := h.right.bit hd
    rw [hc] at HB HI
    unfold fldN at HB
    rw [Int.toNat_natCast] at HB
    have HW := Lib.hid (show ∀ W, Grow w W → ∀ v u, (v = 4 ∧ u = hasB S d 4) ∨ (v = 128 ∧ u = hasB S d 128) → Calls Tryz.prog 38 #[.agg (stA V S.num), .int .i64 (d : Int), .int .i64 v] W fun e w' => e = .returned (.bool u) ∧ Grow W w' from fun W g v u hx => by
      rcases hx with ⟨rfl, rfl⟩ | ⟨rfl, rfl⟩
      · exact word24_any O S V W (h.grow g) d hc 4 (by decide)
      · exact word24_any O S V W (h.grow g) d hc 128 (by decide))
    have hid : (d : Int) < (S.objs.length : Int) := c2
    generalize rowAt S.objs d = row at *
    generalize hasB S d 4 = b4 at *
    generalize hasB S d 128 = b8 at *
    clear hc h c1 c2
    cases h2 : (gt row 2 == S.num 19) <;> cases h4 : (gt row 4 == 0) <;> cases h5 : (gt row 5 == 1) <;> rw [h2, h4, h5] at HB <;> rw [h5] at hb5 <;> simp only [Bool.not_true, Bool.not_false] at hb5 <;> cases b4
    all_goals
      go_enter Tryz.func27, Tryz.ntmps27
      go_wp2_with (first | (go_at_call 36; refine (HI.out _ grI).mono ?_; rintro e' w' ⟨rfl, nx, rfl⟩) | (go_at_call 38; refine (HW.out _ grI _ _ (by first | exact .inl ⟨rfl, rfl⟩ | exact .inr ⟨rfl, rfl⟩)).mono ?_; rintro e' w' ⟨rfl, nx, rfl⟩))
      go_ret
      exact ⟨ret_bool (by rw [HB.out]; simp), grI⟩
theorem may24_wrong (T8 : Table08) (S : St) (V : SV) (w : World) (h : WS S V w) (id : Int) :
    Calls Tryz.prog 27 #[.agg (stA V S.num), .int .i64 id] w fun e w' => e = .returned (.bool false) ∧ Grow w w' := by
  have HI := Lib.hid (fun W (g : Grow w W) => is24_bad T8 S V W (h.grow g).rep h.small h.bad id)
  clear h T8
  go_enter Tryz.func27, Tryz.ntmps27
  go_wp2_with (go_at_call 36; refine (HI.out _ grI).mono ?_; rintro e' w' ⟨rfl, nx, rfl⟩)
  go_ret
  exact ⟨rfl, grI⟩
theorem may_wrong (S : St) (V : SV) (w : World) (h : WS S V w) (id : Int) :
    Calls Tryz.prog 26 #[.agg (stA V S.num), .int .i64 id] w fun e w' => e = .returned (.bool false) ∧ Grow w w' := by
  have HI := Lib.hid (fun W (g : Grow w W) => is_wrong S V W (h.grow g) id)
  clear h
  go_enter Tryz.func26, Tryz.ntmps26
  go_wp2_with fail
  refine wp_region_grow (by kernel_rfl) (by kernel_rfl) ?_; (repeat (go_big_quiet_step ( (first | (go_at_call 40; first | refine Calls.grow2 (HI.out _ grI) | refine Calls.grow (HI.out _ grI))) ))); refine wpQuiet_nil ?_; rintro _ ⟨nx, rfl⟩
  go_wp2_with fail
  go_ret
  exact ⟨rfl, grI⟩
/-- A right state read off the document's emitter, in a block of one's own, and a list. -/
structure BaseG (w : World) (b : Nat) (own : Nat → Prop) (S : St) (V : SV) (q : Nat) (s : Sl) (l : List Int) : Prop where
  side : SideG w b own S V
  at' : b < w.heap.size
  blk : w.blk q = stA V S.num
  free : w.free q = true
  lt : q < w.heap.size
  no : ¬ own q
  ints : Ints w s l
  list : 0 < l.length → ¬ own s.b ∧ s.b < w.heap.size
theorem BaseG.turn {w w' : World} {b : Nat} {own own' : Nat → Prop} {S : St} {V : SV} {q : Nat} {s : Sl} {l : List Int} (h : BaseG w b own S V q s l) (k : Kept own w w') (o : ∀ j, own' j → own j ∨ w.heap.size ≤ j) (f : FPost w b w') : BaseG w' b own' S V q s l := by
  have hs := k.size
  refine ⟨h.side.turn h.at' k o f, by have := h.at'; omega, by rw [k.blk _ h.lt h.no]; exact h.blk, by rw [k.free _ h.lt h.no]; exact h.free, by have := h.lt; omega, fun hq => ?_, h.ints.kept k (fun hl => (h.list hl).1), fun hl => ⟨fun hq => ?_, by have := (h.list hl).2; omega⟩⟩
  · rcases o q hq with h3 | h3
    · exact h.no h3
    · have := h.lt; omega
  · rcases o _ hq with h3 | h3
    · exact (h.list hl).1 h3
    · have := (h.list hl).2; omega
theorem BaseG.grow {w w' : World} {b : Nat} {own : Nat → Prop} {S : St} {V : SV} {q : Nat} {s : Sl} {l : List Int} (h : BaseG w b own S V q s l) (g : Grow w w') : BaseG w' b own S V q s l := h.turn (g.kept own) (fun _ h => .inl h) (.grow g)
theorem TurnG.base {W wk : World} {b q : Nat} {own ownk : Nat → Prop} {E : Em} {S : St} {V : SV} {s : Sl} {l : List Int} (h : TurnG W b own E wk ownk) (B : BaseG W b own S V q s l) : BaseG wk b ownk S V q s l := B.turn h.kept (fun j hj => (h.own j hj).imp id And.left) h.fine
theorem mem_take_succ (l : List Int) (x : Int) (j : Nat) (hj : j < l.length) : x ∈ l.take (j + 1) ↔ x ∈ l.take j ∨ x = gt l j := by
  rw [List.take_succ_eq_append_getElem hj, List.mem_append, List.mem_singleton, gt_eq _ _ hj]
theorem gmt_bad {w : World} {b : Nat} {own : Nat → Prop} {E : Em} (R : Gmt w b own E) : w.cell? ⟨b, 40, none⟩ = some (I E.err) ∧ b < w.heap.size := by
  obtain ⟨V, sd, se, sp, hr, ho⟩ := R
  obtain ⟨_, _, _, h40⟩ := hr.cells
  exact ⟨h40, hr.host.lt⟩
set_option maxRecDepth 100000 in
set_option maxHeartbeats 8000000 in
theorem fight24_good (T8 : Table08) (O : Of17) (w : World) (b : Nat) (own : Nat → Prop) (E : Em) (R : Gmt w b own E) (GL : Glob w) (hv : ∀ k, (k = 0 ∨ k = 1 ∨ k = 2) → ¬ own k) (F : Fi E.now 0 E) (s : Sl) (l : List Int) (hI : Ints w s l) (hs : 0 < l.length → ¬ own s.b) (hl : l.length ≤ 1000) :
    Calls Tryz.prog 23 #[.pointer (some ⟨b, 0, none⟩), s.val] w fun r w' => r = .returned (.tuple #[]) ∧ DPost w b own (E.fight E.now l) w' := by
  have hown := R.lt
  have hsn := hI.len
  have HR := Lib.hid R
  have HF := Lib.hid F
  have HT8 := Lib.hid T8
  have HO17 := Lib.hid O
  have HOL := Lib.hid hown
  have HI := Lib.hid hI
  have HS := Lib.hid hs
  obtain ⟨V, sd, se, sp, hr, ho⟩ := R
  obtain ⟨_, _, _, h40⟩ := hr.cells
  rw [F.err] at h40
  have hbk := hr.host.blk
  have hlt := hr.host.lt
  have HD0 := Lib.hid (SideG.of_em hr F.right F.small GL hv)
  clear hr ho F hown GL hv O T8 hI hs
  go_enter Tryz.func23, Tryz.ntmps23
  go_wp2_with fail
  have hb : BaseG (w.alloc (.cells (stA V E.now.num) 29)) b own E.now V w.heap.size s l := by
    have hg : Grow w (w.alloc (.cells (stA V E.now.num) 29)) := grI
    refine ⟨HD0.out.grow hlt hg, by rw [alloc_size']; omega, by go_simp, by go_simp, by go_simp, fun h => by have := HOL.out _ h; omega, HI.out.grow hg, fun hl0 => ⟨HS.out hl0, by have := (HI.out.at 0 hl0).1; rw [alloc_size']; omega⟩⟩
  have hG1 : Grow w (w.alloc (.cells (stA V E.now.num) 29)) := grI
  have HR1 := Lib.hid (HR.out.grow (w' := w.alloc (.cells (stA V E.now.num) 29)) grI)
  have HB1 := Lib.hid hb
  have HG1 := Lib.hid hG1
  clear hb hG1 hbk h40 HD0
  generalize w.alloc (.cells (stA V E.now.num) 29) = W1 at *
  go_loopw [22] (fun i wr => ∃ (k : Nat) (own2 : Nat → Prop), k ≤ l.length ∧ i = .int .i64 k ∧ TurnG W1 b own (E.fail (fightTo E.now l k)) wr own2) (fun i _ => l.length - (intOf i).toNat)
  case atStart => exact ⟨0, own, by omega, rfl, by rw [show fightTo E.now l 0 = 0 from rfl, fail_z]; exact TurnG.first HR1.out⟩
  case round =>
    obtain ⟨k, own2, hk, rfl, hT⟩ := hrel
    have HT := Lib.hid hT
    have HBk := Lib.hid (hT.base HB1.out)
    clear hT
    by_cases hlt2 : k < l.length
    · obtain ⟨hlb, hlc⟩ := HBk.out.ints.at k hlt2
      have hqb := HBk.out.blk
      have hql := HBk.out.lt
      have hqc := cell_of_blk HBk.out.free HBk.out.blk
      have HCd : Hid (E.fail (fightTo E.now l (k + 1)) = (E.fail (fightTo E.now l k)).fail (codeF E.now l k)) := by
        rw [Hid, fail_fail]; rfl
      have HCF : Hid (codeF E.now l k = firstOf (firstOf (firstOf (if creatureB E.now (gt l k) = true then 0 else 12) (if (!creatureB E.now (gt l k) || fldN E.now (gt l k) 2 == E.now.num 19) = true then 0 else 9)) (if (!decide (gt l k ∈ l.take k)) = true then 0 else 8)) (if mayB E.now (gt l k) = true then 0 else 6)) := rfl
      have HFa := Lib.hid (fun W (g : Grow wr W) n => gfail_any W b own2 _ (HT.out.em.grow g) n)
      have HIs := Lib.hid (fun W (g : Grow wr W) => is24_good HT8.out E.now V W (HBk.out.side.grow HBk.out.at' g).rs (gt l k))
      have HMy := Lib.hid (fun W (g : Grow wr W) => may24_good HT8.out HO17.out E.now V W (HBk.out.side.grow HBk.out.at' g).rs (gt l k))
      generalize gt l k = id at *
      generalize codeF E.now l k = cF at *
      generalize E.fail (fightTo E.now l k) = Ek at *
      cases hc : creatureB E.now id with
      | false =>
        rw [hc] at HCF HIs
        have HC2 : Hid (cF = 12) := by rw [Hid, HCF.out]; simp [firstOf]
        clear hc HCF HMy
        go_wp2_with (go_at_call 36; refine (HIs.out _ grI).mono ?_; rintro e' w' ⟨rfl, nx, rfl⟩)
        go_loopw [7, 8] (fun v j w6 => v = .int .i64 12 ∧ j = .int .i64 0 ∧ Grow wr w6) (fun _ _ _ => 0)
        case atStart => exact ⟨rfl, rfl, grI⟩
        case round =>
          obtain ⟨rfl, rfl, x, rfl⟩ := hrel
          rcases Nat.eq_zero_or_pos k with h0 | h0
          · have h0' : ((0 : Int) < (k : Int)) = False := by simp; omega
            go_wp2_with fail
            refine (HFa.out _ grI _).mono ?_
            rintro e' w7 ⟨rfl, hE⟩
            obtain ⟨own3, T3⟩ := HT.out.step grI hE
            have HT3 := Lib.hid T3
            clear hE T3
            go_wp2_with fail
            go_roundw
            case rel => exact ⟨k + 1, own3, by omega, by go_num, by rw [HCd.out, HC2.out]; exact HT3.out⟩
            case measure => simp [intOf]; omega
          · have h0' : ((0 : Int) < (k : Int)) = True := by simp; omega
            go_wp2_with fail
            refine (HFa.out _ grI _).mono ?_
            rintro e' w7 ⟨rfl, hE⟩
            obtain ⟨own3, T3⟩ := HT.out.step grI hE
            have HT3 := Lib.hid T3
            clear hE T3
            go_wp2_with fail
            go_roundw
            case rel => exact ⟨k + 1, own3, by omega, by go_num, by rw [HCd.out, HC2.out]; exact HT3.out⟩
            case measure => simp [intOf]; omega
      | true =>
        obtain ⟨c1, c2, _, _⟩ := creatureB_in hc
        obtain ⟨d, rfl⟩ := Int.eq_ofNat_of_zero_le c1
        have hd : d < E.now.objs.length := by omega
        have hN := HBk.out.side.rs.rep.objs.len
        obtain ⟨ob, _, _, _, oc⟩ := HBk.out.side.rs.rep.objs.at (by omega) d hd
        have oc2 := oc 2 (by decide)
        have hdi : (d : Int) < (E.now.objs.length : Int) := by omega
        rw [hc] at HCF HIs
        simp only [Bool.not_true, Bool.false_or, if_true] at HCF
        unfold fldN at HCF
        rw [Int.toNat_natCast] at HCF
        generalize gt (rowAt E.now.objs d) 2 = f2 at *
        clear hc c1 c2 oc
        cases h2 : (f2 == E.now.num 19) with
        | false =>
          rw [h2] at HCF
          have h2' : (f2 != E.now.num 19) = true := by rw [bne, h2]; rfl
          have HC2 : Hid (cF = 9) := by rw [Hid, HCF.out]; simp [firstOf]
          clear HCF HMy
          go_wp2_with (go_at_call 36; refine (HIs.out _ grI).mono ?_; rintro e' w' ⟨rfl, nx, rfl⟩)
          refine wp_region_grow (by kernel_rfl) (by kernel_rfl) ?_; (repeat (go_big_quiet_step ( fail ))); refine wpQuiet_nil ?_; rintro _ ⟨nx, rfl⟩
          go_wp2_with fail
          go_loopw [7, 8] (fun v j w6 => v = .int .i64 9 ∧ j = .int .i64 0 ∧ Grow wr w6) (fun _ _ _ => 0)
          case atStart => exact ⟨rfl, rfl, grI⟩
          case round =>
            obtain ⟨rfl, rfl, x, rfl⟩ := hrel
            rcases Nat.eq_zero_or_pos k with h0 | h0
            · have h0' : ((0 : Int) < (k : Int)) = False := by simp; omega
              go_wp2_with fail
              refine (HFa.out _ grI _).mono ?_
              rintro e' w7 ⟨rfl, hE⟩
              obtain ⟨own3, T3⟩ := HT.out.step grI hE
              have HT3 := Lib.hid T3
              clear hE T3
              go_wp2_with fail
              go_roundw
              case rel => exact ⟨k + 1, own3, by omega, by go_num, by rw [HCd.out, HC2.out]; exact HT3.out⟩
              case measure => simp [intOf]; omega
            · have h0' : ((0 : Int) < (k : Int)) = True := by simp; omega
              go_wp2_with fail
              refine (HFa.out _ grI _).mono ?_
              rintro e' w7 ⟨rfl, hE⟩
              obtain ⟨own3, T3⟩ := HT.out.step grI hE
              have HT3 := Lib.hid T3
              clear hE T3
              go_wp2_with fail
              go_roundw
              case rel => exact ⟨k + 1, own3, by omega, by go_num, by rw [HCd.out, HC2.out]; exact HT3.out⟩
              case measure => simp [intOf]; omega
        | true =>
          rw [h2] at HCF
          have h2' : (f2 != E.now.num 19) = false := by rw [bne, h2]; rfl
          simp only [if_true] at HCF
          go_wp2_with (go_at_call 36; refine (HIs.out _ grI).mono ?_; rintro e' w' ⟨rfl, nx, rfl⟩)
          refine wp_region_grow (by kernel_rfl) (by kernel_rfl) ?_; (repeat (go_big_quiet_step ( fail ))); refine wpQuiet_nil ?_; rintro _ ⟨nx, rfl⟩
          go_wp2_with fail
          clear h2 h2'
          go_loopw [7, 8] (fun v j w6 => ∃ m : Nat, m ≤ k ∧ j = .int .i64 m ∧ ((v = .int .i64 0 ∧ ¬ (d : Int) ∈ l.take m) ∨ (v = .int .i64 8 ∧ (d : Int) ∈ l.take k)) ∧ Grow wr w6) (fun _ j _ => k - (intOf j).toNat)
          case atStart => exact ⟨0, by omega, rfl, .inl ⟨rfl, by simp⟩, grI⟩
          case round =>
            obtain ⟨m, hm, rfl, hv, x, rfl⟩ := hrel
            rcases hv with ⟨rfl, hno⟩ | ⟨rfl, hyes⟩
            · by_cases hlt3 : m < k
              · obtain ⟨hmb, hmc⟩ := HBk.out.ints.at m (by omega)
                have hmk : ((m : Int) < (k : Int)) = True := by simp; omega
                have hml : (m : Int) < (l.length : Int) := by omega
                have hsuc := mem_take_succ l (d : Int) m (by omega)
                by_cases hx : gt l m = (d : Int)
                · have HY := Lib.hid (show (d : Int) ∈ l.take k from by
                    rw [← hx, gt_eq _ _ (by omega)]
                    rw [List.mem_take_iff_getElem]
                    exact ⟨m, by omega, rfl⟩)
                  rw [hx] at hmc
                  clear hsuc hno hx
                  go_wp2_with fail
                  go_roundw
                  case rel => exact ⟨m + 1, by omega, by go_num, .inr ⟨rfl, HY.out⟩, grI⟩
                  case measure => simp [intOf]; omega
                · have hx2 : (gt l m == (d : Int)) = false := by simpa using hx
                  have HN := Lib.hid (show ¬ (d : Int) ∈ l.take (m + 1) from fun h => by
                    rcases hsuc.1 h with h | h
                    · exact hno h
                    · exact hx h.symm)
                  generalize gt l m = y at *
                  clear hsuc hno hx
                  go_wp2_with fail
                  go_roundw
                  case rel => exact ⟨m + 1, by omega, by go_num, .inl ⟨rfl, HN.out⟩, grI⟩
                  case measure => simp [intOf]; omega
              · have hke : m = k := by omega
                subst hke
                have hmk : ((m : Int) < (m : Int)) = False := by simp
                have HCG : Hid (cF = if mayB E.now d = true then 0 else 6) := by
                  rw [Hid, HCF.out, if_pos (by simp [hno])]; rfl
                clear HCF hno
                cases hmy : mayB E.now d with
                | false =>
                  rw [hmy] at HCG HMy
                  have HC2 : Hid (cF = 6) := by rw [Hid, HCG.out]; simp
                  clear HCG hmy
                  go_wp2_with (go_at_call 27; refine (HMy.out _ grI).mono ?_; rintro e' w' ⟨rfl, nx, rfl⟩)
                  refine (HFa.out _ grI _).mono ?_
                  rintro e' w7 ⟨rfl, hE⟩
                  obtain ⟨own3, T3⟩ := HT.out.step grI hE
                  have HT3 := Lib.hid T3
                  clear hE T3
                  go_wp2_with fail
                  go_roundw
                  case rel => exact ⟨m + 1, own3, by omega, by go_num, by rw [HCd.out, HC2.out]; exact HT3.out⟩
                  case measure => simp [intOf]; omega
                | true =>
                  rw [hmy] at HCG HMy
                  have HC2 : Hid (cF = 0) := by rw [Hid, HCG.out]; simp
                  clear HCG hmy
                  go_wp2_with (go_at_call 27; refine (HMy.out _ grI).mono ?_; rintro e' w' ⟨rfl, nx, rfl⟩)
                  refine (HFa.out _ grI _).mono ?_
                  rintro e' w7 ⟨rfl, hE⟩
                  obtain ⟨own3, T3⟩ := HT.out.step grI hE
                  have HT3 := Lib.hid T3
                  clear hE T3
                  go_wp2_with fail
                  go_roundw
                  case rel => exact ⟨m + 1, own3, by omega, by go_num, by rw [HCd.out, HC2.out]; exact HT3.out⟩
                  case measure => simp [intOf]; omega
            · have HC2 : Hid (cF = 8) := by
                rw [Hid, HCF.out, if_neg (by simp [hyes])]; rfl
              clear HCF hyes HMy
              by_cases hlt3 : m < k
              · have hmk : ((m : Int) < (k : Int)) = True := by simp; omega
                go_wp2_with fail
                refine (HFa.out _ grI _).mono ?_
                rintro e' w7 ⟨rfl, hE⟩
                obtain ⟨own3, T3⟩ := HT.out.step grI hE
                have HT3 := Lib.hid T3
                clear hE T3
                go_wp2_with fail
                go_roundw
                case rel => exact ⟨k + 1, own3, by omega, by go_num, by rw [HCd.out, HC2.out]; exact HT3.out⟩
                case measure => simp [intOf]; omega
              · have hmk : ((m : Int) < (k : Int)) = False := by simp; omega
                go_wp2_with fail
                refine (HFa.out _ grI _).mono ?_
                rintro e' w7 ⟨rfl, hE⟩
                obtain ⟨own3, T3⟩ := HT.out.step grI hE
                have HT3 := Lib.hid T3
                clear hE T3
                go_wp2_with fail
                go_roundw
                case rel => exact ⟨k + 1, own3, by omega, by go_num, by rw [HCd.out, HC2.out]; exact HT3.out⟩
                case measure => simp [intOf]; omega
    · have hke : k = l.length := by omega
      subst hke
      clear hlt2 hk
      by_cases hz : fightTo E.now l l.length = 0
      · have HFt : Hid (E.fight E.now l = E.fights E.now l) := if_pos hz
        rw [hz, fail_z] at HT
        have HZ := Lib.hid hz
        clear hz
        go_wp2_with fail
        go_loopw [70] (fun i wr => ∃ (k2 : Nat) (own3 : Nat → Prop), k2 ≤ l.length ∧ i = .int .i64 k2 ∧ TurnG W1 b own (E.fights E.now (l.take k2)) wr own3) (fun i _ => l.length - (intOf i).toNat)
        case atStart => exact ⟨0, own2, by omega, rfl, HT.out⟩
        case round =>
          obtain ⟨k2, own3, hk2, rfl, hT⟩ := hrel
          have HT3 := Lib.hid hT
          have HB3 := Lib.hid (hT.base HB1.out)
          clear hT
          by_cases hlt : k2 < l.length
          · obtain ⟨hlb, hlc⟩ := HB3.out.ints.at k2 hlt
            have HSc := Lib.hid (fights_succ E E.now l k2 hlt)
            have hFk := HF.out.fights (by omega) HZ.out k2 hk2
            have hcr := fightTo_creature HZ.out k2 hlt
            obtain ⟨h40k, hbw⟩ := gmt_bad HT3.out.em
            rw [hFk.err] at h40k
            generalize gt l k2 = id at *
            obtain ⟨c1, c2, c3, _⟩ := creatureB_in hcr
            obtain ⟨d, rfl⟩ := Int.eq_ofNat_of_zero_le c1
            rw [Int.toNat_natCast] at c3
            have hd : d < E.now.objs.length := by omega
            generalize E.fights E.now (l.take k2) = Ek at *
            have e1 : gt (objBounds E.now.objs.length) (11 * 2) = 0 ∧ gt (objBounds E.now.objs.length) (11 * 2 + 1) = 1 := ⟨rfl, rfl⟩
            have hF2 : Fi E.now (2 * k2 + 1) (Ek.setObj d 11 1) := (hFk.set (by omega) d 11 1 hd c3 (by omega) (by omega) (by omega)).1
            have HSet := Lib.hid (show ∀ W, Grow wr W → Calls Tryz.prog 50 #[.pointer (some ⟨b, 0, none⟩), .int .i64 (d : Int), .int .i64 11, .int .i64 1] W fun r w' => r = .returned (.tuple #[]) ∧ DPost W b own3 (Ek.setObj d 11 1) w' from fun W g => gset_any W b own3 _ (HT3.out.em.grow g) hFk.small (fun _ => by have := hFk.evs; omega) d 11 1 (by rw [hFk.len]; exact hd) (by decide) (by decide) (by omega))
            have HSet2 := Lib.hid (show ∀ W own4, Gmt W b own4 (Ek.setObj d 11 1) → Calls Tryz.prog 50 #[.pointer (some ⟨b, 0, none⟩), .int .i64 (d : Int), .int .i64 4, .int .i64 1] W fun r w' => r = .returned (.tuple #[]) ∧ DPost W b own4 ((Ek.setObj d 11 1).setObj d 4 1) w' from fun W own4 r => gset_any W b own4 _ r hF2.small (fun _ => by have := hF2.evs; omega) d 4 1 (by rw [hF2.len]; exact hd) (by decide) (by decide) (by omega))
            clear hFk hF2 c1 c2 c3 e1
            go_wp2_with fail
            refine (HSet.out _ grI).mono ?_
            rintro e' w3 ⟨rfl, hE⟩
            obtain ⟨own4, T4⟩ := HT3.out.step grI hE
            have HT4 := Lib.hid T4
            have HB4 := Lib.hid (T4.base HB1.out)
            have HWd := Lib.hid (fun W (g : Grow w3 W) => word24_any HO17.out E.now V W (HB4.out.side.grow HB4.out.at' g).rs d hcr 8 (by decide))
            have hqb := HB4.out.blk
            have hql := HB4.out.lt
            have HOne : Hid (Ek.fightOne E.now d = if hasB E.now d 8 = true then Ek.setObj d 11 1 else (Ek.setObj d 11 1).setObj d 4 1) := rfl
            clear hE T4 hlb hlc h40k hcr
            cases h8 : hasB E.now d 8 with
            | true =>
              rw [h8] at HWd HOne
              rw [if_pos rfl] at HOne
              go_wp2_with (go_at_call 38; refine (HWd.out _ grI).mono ?_; rintro e' w' ⟨rfl, nx, rfl⟩)
              go_roundw
              case rel => exact ⟨k2 + 1, own4, by omega, by go_num, by rw [HSc.out, HOne.out]; exact HT4.out.grow grI⟩
              case measure => simp [intOf]; omega
            | false =>
              rw [h8] at HWd HOne
              rw [if_neg (by simp)] at HOne
              go_wp2_with (go_at_call 38; refine (HWd.out _ grI).mono ?_; rintro e' w' ⟨rfl, nx, rfl⟩)
              refine (HSet2.out _ own4 (HT4.out.em.grow grI)).mono ?_
              rintro e' w4 ⟨rfl, hE⟩
              obtain ⟨own5, T5⟩ := HT4.out.step grI hE
              have HT5 := Lib.hid T5
              clear hE T5 hqb hql
              go_wp2_with fail
              go_roundw
              case rel => exact ⟨k2 + 1, own5, by omega, by go_num, by rw [HSc.out, HOne.out]; exact HT5.out⟩
              case measure => simp [intOf]; omega
          · have hke : k2 = l.length := by omega
            subst hke
            go_wp2_with fail
            go_end0
            have h2 := HT3.out
            rw [List.take_length] at h2
            exact ⟨rfl, by rw [HFt.out]; exact (h2.post HG1.out).more grI⟩
      · have HFt : Hid (E.fight E.now l = E.fail (fightTo E.now l l.length)) := if_neg hz
        obtain ⟨h40k, hbw⟩ := gmt_bad HT.out.em
        rw [fail_err HF.out.err] at h40k
        have hzb : (fightTo E.now l l.length == 0) = false := by simpa using hz
        generalize E.fail (fightTo E.now l l.length) = Ef at *
        generalize fightTo E.now l l.length = z at *
        have HIw := Lib.hid HBk.out.ints
        clear hz
        go_wp2_with fail
        go_loopw [70] (fun i w6 => ∃ k2 : Nat, k2 ≤ l.length ∧ i = .int .i64 k2 ∧ Grow wr w6) (fun i _ => l.length - (intOf i).toNat)
        case atStart => exact ⟨0, by omega, rfl, grI⟩
        case round =>
          obtain ⟨k2, hk2, rfl, x, rfl⟩ := hrel
          by_cases hlt : k2 < l.length
          · obtain ⟨hlb, hlc⟩ := HIw.out.at k2 hlt
            generalize gt l k2 = id at *
            go_wp2_with fail
            go_roundw
            case rel => exact ⟨k2 + 1, by omega, by go_num, grI⟩
            case measure => simp [intOf]; omega
          · go_wp2_with fail
            go_end0
            exact ⟨rfl, by rw [HFt.out]; exact (HT.out.post HG1.out).more grI⟩
/-- The document leaves at once where there is an error. -/
theorem fight24_bad (w : World) (b : Nat) (own : Nat → Prop) (E : Em) (R : Gmt w b own E) (he : E.err ≠ 0) (s : Value) :
    Calls Tryz.prog 23 #[.pointer (some ⟨b, 0, none⟩), s] w fun r w' => r = .returned (.tuple #[]) ∧ Grow w w' := by
  obtain ⟨h40, hlt⟩ := gmt_bad R
  have hb : (E.err != 0) = true := by simpa using he
  clear he R
  go_enter Tryz.func23, Tryz.ntmps23
  go_wp2_with fail
  refine bodyPost_ret (results_none rfl _ _ _) rfl ?_
  exact ⟨rfl, grI⟩
end Go.Proofs.YtnjdkkgkaafdbaaGreatDoor
