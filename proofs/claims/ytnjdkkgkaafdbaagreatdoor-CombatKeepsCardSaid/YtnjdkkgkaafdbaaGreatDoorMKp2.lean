/-
  The walk of the law CombatKeeps.
-/
import Derived.Test.YtnjdkkgkaafdbaaGreatDoorMKp1
import Derived.Test.YtnjdkkgkaafdbaaGreatDoorMRefChk
import Derived.Deep.RegionHeld3
namespace Go.Proofs.YtnjdkkgkaafdbaaGreatDoor
open Go Go.RowKit Go.Shelf

theorem flatMap_len24 {α β : Type} (f : α → List β) (c : Nat) : ∀ l : List α, (∀ a ∈ l, (f a).length ≤ c) → (l.flatMap f).length ≤ l.length * c
  | [], _ => by simp
  | a :: l, h => by
    rw [List.flatMap_cons, List.length_append, List.length_cons, Nat.succ_mul]
    have h1 := flatMap_len24 f c l (fun x hx => h x (by simp [hx]))
    have h2 := h a (by simp)
    omega
theorem hits_few24 (S : St) (h : (S.list 8).length ≤ 34) : (HitsN S).length ≤ 2346 := by
  have h1 : (HitsN S).length ≤ (rawN S).length := List.length_filter_le _ _
  have h2 : (rawN S).length ≤ (attackersN S).length * 69 := flatMap_len24 _ _ _ (fun a _ => by
    have := hitsN_len S a
    have h3 : (blockersN S a).length ≤ (S.list 8).length := List.length_filter_le _ _
    omega)
  have h3 : (attackersN S).length ≤ (S.list 8).length := List.length_filter_le _ _
  omega
theorem Fi.new24 {S : St} (h : Right S) (hw : ∀ i, i < S.objs.length → (rowAt S.objs i).length = 18) : Fi S 0 ⟨S, [], [], [], 0⟩ :=
  ⟨rfl, h, hw, rfl, rfl, fun _ => rfl, Nat.le_refl _, rfl⟩
/-- Where an emitter of a right state has come to, between a law's calls, and the blocks that it leaves alone. -/
structure KeepAt (w : World) (bs : List (Nat × Array Value)) (b : Nat) (own : Nat → Prop) (E : Em) (wk : World) : Prop where
  em : Emt wk b own E
  low : ∀ k, own k → w.heap.size ≤ k
  grow : Grow w wk
  box : ∀ p ∈ bs, ¬ own p.1 ∧ p.1 < wk.heap.size ∧ wk.blk p.1 = p.2 ∧ wk.free p.1 = true
theorem KeepAt.more {w wk w2 : World} {bs : List (Nat × Array Value)} {b : Nat} {own : Nat → Prop} {E : Em} (h : KeepAt w bs b own E wk) (g : Grow wk w2) : KeepAt w bs b own E w2 :=
  ⟨h.em.grow g, h.low, h.grow.trans g, fun p hp => by
    obtain ⟨p1, p2, p3, p4⟩ := h.box p hp
    exact ⟨p1, Nat.lt_of_lt_of_le p2 g.size, by rw [(g.kept (fun _ => False)).blk _ p2 (fun h => h)]; exact p3, by rw [(g.kept (fun _ => False)).free _ p2 (fun h => h)]; exact p4⟩⟩
theorem KeepAt.step {w wk wx w2 : World} {bs : List (Nat × Array Value)} {b : Nat} {own : Nat → Prop} {E E2 : Em} (h : KeepAt w bs b own E wk) (g : Grow wk wx) (e : EPost wx b own E2 w2) : ∃ own2, KeepAt w bs b own2 E2 w2 := by
  obtain ⟨own2, R2, K2, O2⟩ := e
  have h2 := h.more g
  have hsz := h2.grow.size
  exact ⟨own2, R2, fun k hk => by
    rcases O2 k hk with a | a
    · exact h.low k a
    · omega, K2.grow_of h2.grow (fun k hk => h.low k hk), fun p hp => by
    obtain ⟨p1, p2, p3, p4⟩ := h2.box p hp
    exact ⟨fun a => by
      rcases O2 _ a with a | a
      · exact p1 a
      · omega, Nat.lt_of_lt_of_le p2 K2.size, by rw [K2.blk _ p2 p1]; exact p3, by rw [K2.free _ p2 p1]; exact p4⟩⟩
theorem KeepAt.add {w wk : World} {bs : List (Nat × Array Value)} {b q : Nat} {own : Nat → Prop} {E : Em} {cs : Array Value} (h : KeepAt w bs b own E wk) (hn : ¬ own q) (hl : q < wk.heap.size) (hb : wk.blk q = cs) (hf : wk.free q = true) : KeepAt w ((q, cs) :: bs) b own E wk :=
  ⟨h.em, h.low, h.grow, fun p hp => by
    rcases List.mem_cons.1 hp with rfl | hp
    · exact ⟨hn, hl, hb, hf⟩
    · exact h.box p hp⟩
theorem defend_good {E : Em} {S : St} {l : List Int} (h : (E.defend S l).err = 0) : E.defend S l = E.blocks l ((l.length + 1) / 2) ∧ (defS S l (List.range ((l.length + 1) / 2))).1 = 0 := by
  have hd : E.defend S l = if ((E.odd l).fail (defS S l (List.range ((l.length + 1) / 2))).1).err = 0 then E.blocks l ((l.length + 1) / 2) else (E.odd l).fail (defS S l (List.range ((l.length + 1) / 2))).1 := rfl
  by_cases he : ((E.odd l).fail (defS S l (List.range ((l.length + 1) / 2))).1).err = 0
  · rw [if_pos he] at hd
    exact ⟨hd, (odd_zero he).2.2⟩
  · rw [if_neg he] at hd
    rw [hd] at h
    exact absurd h he
set_option maxRecDepth 100000 in
set_option maxHeartbeats 8000000 in
theorem keeps_law (S : St) (V : SV) (w : World) (R : RepSt w V S) (GL : Glob w) (HA : ∀ W, Grow w W → Calls Tryz.prog 6 #[] W fun e w' => e = .returned (.bool true) ∧ Grow W w') (s1 : Sl) (l1 : List Int) (I1 : Ints w s1 l1) (s2 : Sl) (l2 : List Int) (I2 : Ints w s2 l2) :
    Calls Tryz.prog 5 #[.agg (stA V S.num), s1.val, s2.val] w fun e w' => e = .returned (.bool true) ∧ Grow w w' := by
  have HAl := Lib.hid HA
  have HLo := Lib.hid (fun W (g : Grow w W) => long_any S V 24 (by omega) W (R.grow g))
  have hn1 := I1.len
  have hn2 := I2.len
  cases hl : longB S 24 with
  | true =>
    rw [hl] at HLo
    clear R GL hl HA
    go_enter Tryz.func5, Tryz.ntmps5
    go_wp2_with (first | (go_at_call 6; refine (HAl.out _ grI).mono ?_; rintro e' w' ⟨rfl, nx, rfl⟩) | (go_at_call 7; refine (HLo.out _ grI).mono ?_; rintro e' w' ⟨rfl, nx, rfl⟩))
    go_ret
    exact ⟨rfl, grI⟩
  | false =>
  have hsm : SmallN S 34 := long_small 24 hl
  have hSm := hsm.small (show 34 ≤ 1048576 by omega)
  have h8 : (S.list 8).length ≤ 34 := hsm.list 8 (by omega)
  rw [hl] at HLo
  have HCk := Lib.hid (fun W (g : Grow w W) => refCheck_any S V W (R.grow g) hSm)
  by_cases hck : checkN S = 0
  · rw [hck] at HCk
    by_cases hb1 : 12 < l1.length
    · have hb1' : ((12 : Int) < (l1.length : Int)) = True := by simp; omega
      clear R GL hl HA hsm hSm hck
      go_enter Tryz.func5, Tryz.ntmps5
      go_wp2_with (first | (go_at_call 6; refine (HAl.out _ grI).mono ?_; rintro e' w' ⟨rfl, nx, rfl⟩) | (go_at_call 7; refine (HLo.out _ grI).mono ?_; rintro e' w' ⟨rfl, nx, rfl⟩) | (go_at_call 28; refine (HCk.out _ grI).mono ?_; rintro e' w' ⟨rfl, nx, rfl⟩))
      go_ret
      exact ⟨rfl, grI⟩
    by_cases hb2 : 12 < l2.length
    · have hb1' : ((12 : Int) < (l1.length : Int)) = False := by simp; omega
      have hb2' : ((12 : Int) < (l2.length : Int)) = True := by simp; omega
      clear R GL hl HA hsm hSm hck
      go_enter Tryz.func5, Tryz.ntmps5
      go_wp2_with (first | (go_at_call 6; refine (HAl.out _ grI).mono ?_; rintro e' w' ⟨rfl, nx, rfl⟩) | (go_at_call 7; refine (HLo.out _ grI).mono ?_; rintro e' w' ⟨rfl, nx, rfl⟩) | (go_at_call 28; refine (HCk.out _ grI).mono ?_; rintro e' w' ⟨rfl, nx, rfl⟩))
      go_ret
      exact ⟨rfl, grI⟩
    have hb1' : ((12 : Int) < (l1.length : Int)) = False := by simp; omega
    have hb2' : ((12 : Int) < (l2.length : Int)) = False := by simp; omega
    have hRt : Right S := (checkN_zero S).1 hck
    have HNew := Lib.hid (fun W (g : Grow w W) => new_any S V W (R.grow g) hSm (GL.grow g) .nil [] (Ints.nil W) (by simp))
    have hnil : (Sl.nil).val = Value.slice none 0 0 := rfl
    rw [hnil, new_is hck] at HNew
    have hF0 := Fi.new24 hRt R.objs.wid
    have HF0 := Lib.hid hF0
    have HRt := Lib.hid hRt
    have HGL := Lib.hid GL
    have HR := Lib.hid R
    have HI1 := Lib.hid I1
    have HI2 := Lib.hid I2
    have hon := R.objs.len
    have HVr := Lib.hid (show ∀ (f : Nat → Prop), (∀ k, f k → w.heap.size ≤ k) → ∀ k, (k = 0 ∨ k = 1 ∨ k = 2) → ¬ f k from fun f hf k hk h => by
      obtain ⟨z1, z2, z3⟩ := GL.size
      have := hf k h
      rcases hk with rfl | rfl | rfl <;> omega)
    have HLa := Lib.hid (show ∀ (f : Nat → Prop), (∀ k, f k → w.heap.size ≤ k) → (0 < l1.length → ¬ f s1.b) ∧ (0 < l2.length → ¬ f s2.b) from fun f hf => ⟨fun h hq => by have := (I1.at 0 h).1; have := hf _ hq; omega, fun h hq => by have := (I2.at 0 h).1; have := hf _ hq; omega⟩)
    clear R GL hl HA hsm hSm hck hnil hF0 hRt I1 I2
    go_enter Tryz.func5, Tryz.ntmps5
    go_wp2_with (first | (go_at_call 6; refine (HAl.out _ grI).mono ?_; rintro e' w' ⟨rfl, nx, rfl⟩) | (go_at_call 7; refine (HLo.out _ grI).mono ?_; rintro e' w' ⟨rfl, nx, rfl⟩) | (go_at_call 28; refine (HCk.out _ grI).mono ?_; rintro e' w' ⟨rfl, nx, rfl⟩) | (go_at_call 15; refine (HNew.out _ grI).mono ?_; rintro e' w1 ⟨b, own, rfl, hem, hown, hgN⟩; have HK1 : Hid (KeepAt w [(w.heap.size, stA V S.num)] b own ⟨S, [], [], [], 0⟩ w1) := ⟨hem, fun k hk => by have := (hown k hk).1; simp only [plus_size, alloc_size'] at this; omega, Grow.trans grI hgN, fun p hp => by (obtain rfl := List.mem_singleton.1 hp); exact ⟨fun h => by have := (hown _ h).1; simp only [plus_size, alloc_size'] at this; omega, by have := hgN.size; simp only [plus_size, alloc_size'] at this; omega, by rw [blk_grow hgN (by go_simp)]; go_simp, by rw [(hgN.kept (fun _ => False)).free _ (by go_simp) (fun h => h)]; go_simp⟩⟩; clear hem hown hgN))
    have HFt := Lib.hid (fun W (g : Grow w1 W) => fight_good W b own ⟨S, [], [], [], 0⟩ (HK1.out.em.grow g) (HGL.out.grow (HK1.out.grow.trans g)) (HVr.out _ HK1.out.low) HF0.out s1 l1 (HI1.out.grow (HK1.out.grow.trans g)) (HLa.out _ HK1.out.low).1 (by omega))
    refine (HFt.out _ grI).mono ?_
    rintro e' w2 ⟨rfl, hE⟩
    obtain ⟨own2, K2⟩ := HK1.out.step (Grow.refl _) hE
    have HK2 := Lib.hid K2
    clear hE K2 HFt
    by_cases hz : fightTo S l1 l1.length = 0
    · have hE1 : (⟨S, [], [], [], 0⟩ : Em).fight S l1 = (⟨S, [], [], [], 0⟩ : Em).fights S l1 := if_pos hz
      have hF1 : Fi S (2 * l1.length) ((⟨S, [], [], [], 0⟩ : Em).fights S l1) := by
        have := HF0.out.fights (by omega) hz l1.length (Nat.le_refl _)
        rwa [List.take_length] at this
      obtain ⟨r1, r2⟩ := fights_rows HF0.out rfl (by omega) hz l1.length (Nat.le_refl _)
      rw [List.take_length] at r1 r2
      have HCr := Lib.hid (fun k (hk : k < l1.length) => fightTo_creature hz k hk)
      rw [show (⟨S, [], [], [], 0⟩ : Em).now = S from rfl, hE1] at HK2
      generalize (⟨S, [], [], [], 0⟩ : Em).fights S l1 = E1 at *
      have HLk : Hid (Like S E1.now) := ⟨hF1.list, hF1.len, fun i f hf => r1 i f (by omega) (by omega)⟩
      have HF1 := Lib.hid hF1
      have HR2 := Lib.hid r2
      have HEr := Lib.hid (fun W (g : Grow w2 W) => by have := err_any W b own2 _ (HK2.out.em.grow g); rw [hF1.err, errV_0] at this; exact this)
      have HSt := Lib.hid (fun W (g : Grow w2 W) => by have := estate_any W b own2 _ (HK2.out.em.grow g) hF1.small; rw [show E1.state = E1.now from if_neg (by rw [hF1.err]; simp)] at this; exact this)
      have hst1 : E1.state = E1.now := if_neg (by rw [hF1.err]; simp)
      clear hz hE1 hF1 r1 r2
      go_wp2_with (first | (go_at_call 29; refine (HEr.out _ grI).mono ?_; rintro e' w' ⟨rfl, nx, rfl⟩) | (go_at_call 30; refine (HSt.out _ grI).mono ?_; rintro e' w3 ⟨V1, rfl, hR1, hU1, hg1⟩; have hq1 : ¬ own2 w3.heap.size := (fun h => by have := HK2.out.em.lt _ h; have := hg1.size; simp only [plus_size] at this; omega); have hg3 : Grow w2 w3 := Grow.trans grI hg1; clear hU1 hg1))
      have hgA : Grow w3 (w3.alloc (.cells (stA V1 E1.now.num) 29)) := grI
      have HK3 := Lib.hid ((HK2.out.more (hg3.trans hgA)).add hq1 (by rw [alloc_size']; omega) (by go_simp) (by go_simp) : KeepAt w [(w3.heap.size, stA V1 E1.now.num), (w.heap.size, stA V S.num)] b own2 E1 (w3.alloc (.cells (stA V1 E1.now.num) 29)))
      have HRS : Hid (RS E1.now V1 (w3.alloc (.cells (stA V1 E1.now.num) 29))) := ⟨hR1.grow hgA, HF1.out.right, HF1.out.small, HGL.out.grow (HK3.out.grow)⟩
      have hqw : w.heap.size < w3.heap.size := by
        have h1 := (HK2.out.box (w.heap.size, stA V S.num) (by simp)).2.1
        have h2 := hg3.size
        exact Nat.lt_of_lt_of_le h1 h2
      clear hR1 hq1 hg3 hgA HK2
      generalize hq : w3.heap.size = q at *
      generalize w3.alloc (.cells (stA V1 E1.now.num) 29) = W3 at *
      clear hq
      go_loopw [42] (fun i wr => ∃ k : Nat, k ≤ l1.length ∧ i = .int .i64 k ∧ Grow W3 wr) (fun i _ => l1.length - (intOf i).toNat)
      case atStart => exact ⟨0, by omega, rfl, Grow.refl _⟩
      case round =>
        obtain ⟨k, hk, rfl, x, rfl⟩ := hrel
        obtain ⟨q1, q2, q3, q4⟩ := HK3.out.box (q, stA V1 E1.now.num) (by simp)
        by_cases hlt : k < l1.length
        · obtain ⟨hlb, hlc⟩ := (HI1.out.grow HK3.out.grow).at k hlt
          have hcr := HCr.out k hlt
          obtain ⟨v11, v4⟩ := HR2.out k hlt
          generalize gt l1 k = id at *
          obtain ⟨c1, c2, _, _⟩ := creatureB_in hcr
          obtain ⟨d, rfl⟩ := Int.eq_ofNat_of_zero_le c1
          have hd : d < E1.now.objs.length := by rw [HF1.out.len]; omega
          have hN := HRS.out.rep.objs.len
          obtain ⟨ob, _, _, _, oc⟩ := HRS.out.rep.objs.at (by omega) d hd
          have oc11 := oc 11 (by decide)
          have oc4 := oc 4 (by decide)
          rw [Int.toNat_natCast] at v11 v4
          rw [v11] at oc11
          have hdi : (d : Int) < (E1.now.objs.length : Int) := by omega
          have hqc := cell_of_blk q4 q3
          have HHs := Lib.hid (fun W (g : Grow W3 W) => by have := has_word E1.now V1 W (HRS.out.grow g) d 8 (by decide) (by decide); rw [HLk.out.has] at this; exact this)
          generalize gt (rowAt E1.now.objs d) 4 = f4 at *
          clear oc c1 c2 v11 hcr q1
          cases h4 : (f4 == 0) with
          | true =>
            have h8 : hasB S d 8 = true := by
              rcases v4 with v4 | v4
              · exact v4
              · rw [v4] at h4; simp at h4
            rw [h8] at HHs
            clear v4 h8
            go_wp2_with (go_at_call 31; refine (HHs.out _ grI).mono ?_; rintro e' w' ⟨rfl, nx, rfl⟩)
            go_roundw
            case rel => exact ⟨k + 1, by omega, by go_num, grI⟩
            case measure => simp [intOf]; omega
          | false =>
            clear v4
            go_wp2_with fail
            go_roundw
            case rel => exact ⟨k + 1, by omega, by go_num, grI⟩
            case measure => simp [intOf]; omega
        · have HK4 := Lib.hid (HK3.out.more (⟨x, rfl⟩ : Grow W3 (W3.plus x)))
          clear q1 q2 q3 q4 HK3 HRS HSt HEr HR2 HCr
          generalize W3.plus x = W4 at *
          have hDf := fun W (g : Grow W4 W) => defend_any W b own2 E1 (HK4.out.em.grow g) (HGL.out.grow (HK4.out.grow.trans g)) (HVr.out _ HK4.out.low) (by rw [hst1]; exact HF1.out.right) HF1.out.small (2 * l1.length) (by omega) (fun _ => HF1.out.rebase) s2 l2 (HI2.out.grow (HK4.out.grow.trans g)) (HLa.out _ HK4.out.low).2 (by omega)
          rw [hst1] at hDf
          have HDf := Lib.hid hDf
          clear hDf
          go_wp2_with fail
          refine (HDf.out _ grI).mono ?_
          rintro e' w5 ⟨rfl, hE⟩
          obtain ⟨own5, K5⟩ := HK4.out.step grI hE
          have HK5 := Lib.hid K5
          clear hE K5 HDf HK4
          by_cases he2 : (E1.defend E1.now l2).err = 0
          · obtain ⟨hbk, hz2⟩ := defend_good he2
            have hF2 : Fi E1.now (2 * l1.length + (l2.length + 1) / 2) (E1.defend E1.now l2) := by
              rw [hbk]
              exact Fi.blocks (by omega) HF1.out.right HF1.out.rebase (show l2.length ≤ 1000 by omega) (by omega) hz2 _ (Nat.le_refl _)
            have hm2 : 2 * l1.length + (l2.length + 1) / 2 ≤ 100 := by omega
            clear hbk hz2 he2
            generalize 2 * l1.length + (l2.length + 1) / 2 = m2 at *
            generalize E1.defend E1.now l2 = E2 at *
            have hl8 : (E2.now.list 8).length ≤ 34 := by rw [hF2.list, HF1.out.list]; exact h8
            have hle2 : E2.now.objs.length = S.objs.length := by rw [hF2.len, HF1.out.len]
            have hfew := hits_few24 E2.now hl8
            have hR2 := hF2.right
            have hFr := hF2.rebase
            have hF3 : Fi E2.now (m2 + 2 * (HitsN E2.now).length) (E2.strikes E2.now (HitsN E2.now)) := by
              have := Fi.strikesM hR2 hFr (by omega) (HitsN E2.now).length (Nat.le_refl _)
              rwa [List.take_length] at this
            have HStr := Lib.hid (fun W (g : Grow w5 W) => strikeAll_from W b own5 E2 (HK5.out.em.grow g) (HGL.out.grow (HK5.out.grow.trans g)) (HVr.out _ HK5.out.low) m2 hFr (by omega) (by omega))
            have HEr5 := Lib.hid (fun W (g : Grow w5 W) => by have := err_any W b own5 _ (HK5.out.em.grow g); rw [hF2.err, errV_0] at this; exact this)
            have hm3 : m2 + 2 * (HitsN E2.now).length ≤ 5000 := by omega
            generalize m2 + 2 * (HitsN E2.now).length = m3 at *
            generalize E2.strikes E2.now (HitsN E2.now) = E3 at *
            have HF3 := Lib.hid hF3
            have hF4 : Fi E2.now (m3 + 2 * (E2.now.list 8).length) (E3.ends (E2.now.list 8)) := by
              have := hF3.ends hR2 (by omega) (E2.now.list 8).length (Nat.le_refl _)
              rwa [List.take_length] at this
            obtain ⟨hNa, hNh⟩ := ends_none hR2 hF3 (by omega)
            have HEnd := Lib.hid (fun W own6 (r : Emt W b own6 E3) => end_good W b own6 E3 r E2.now hR2 m3 hF3 (by omega))
            have hl84 : (E3.ends (E2.now.list 8)).now.list = E2.now.list := hF4.list
            have hle4 : (E3.ends (E2.now.list 8)).now.objs.length = S.objs.length := by rw [hF4.len, hle2]
            generalize E3.ends (E2.now.list 8) = E4 at *
            have HF4 := Lib.hid hF4
            have HN4 := Lib.hid (And.intro hNa hNh)
            have hl44 : (E4.now.list 8).length ≤ 34 := by rw [hl84]; exact hl8
            clear hF2 hFr hF3 hF4 hNa hNh hfew hl84 hle2 hR2 hl8
            go_wp2_with (go_at_call 29; refine (HEr5.out _ grI).mono ?_; rintro e' w' ⟨rfl, nx, rfl⟩)
            refine (HStr.out _ grI).mono ?_
            rintro e' w6 ⟨rfl, hE⟩
            obtain ⟨own6, K6⟩ := HK5.out.step grI hE
            have HK6 := Lib.hid K6
            have HSt6 := Lib.hid (fun W (g : Grow w6 W) => by have := estate_any W b own6 _ (HK6.out.em.grow g) HF3.out.small; rw [show E3.state = E3.now from if_neg (by rw [HF3.out.err]; simp)] at this; exact this)
            have HCk6 := Lib.hid (fun W V' (r : RepSt W V' E3.now) => by have := refCheck_any E3.now V' W r HF3.out.small; rw [(checkN_zero E3.now).2 HF3.out.right] at this; exact this)
            clear hE K6 HStr HEr5 HK5
            go_wp2_with (first | (go_at_call 30; refine (HSt6.out _ grI).mono ?_; rintro e' w' ⟨V3, rfl, hR3, _, n6, rfl⟩; (try simp only [drew_plus] at hR3); (try simp only [plus_plus] at hR3); have HR3 := Lib.hid hR3; clear hR3) | (go_at_call 28; refine (HCk6.out _ V3 (HR3.out.grow grI)).mono ?_; rintro e' w' ⟨rfl, n7, rfl⟩))
            refine (HEnd.out _ own6 (HK6.out.em.grow grI)).mono ?_
            rintro e' w7 ⟨rfl, hE⟩
            obtain ⟨own7, K7⟩ := HK6.out.step grI hE
            have HK7 := Lib.hid K7
            have HSt7 := Lib.hid (fun W (g : Grow w7 W) => by have := estate_any W b own7 _ (HK7.out.em.grow g) HF4.out.small; rw [show E4.state = E4.now from if_neg (by rw [HF4.out.err]; simp)] at this; exact this)
            obtain ⟨q1, q2, q3, q4⟩ := K7.box (q, stA V1 E1.now.num) (by simp)
            obtain ⟨p1, p2, p3, p4⟩ := K7.box (w.heap.size, stA V S.num) (by simp)
            simp only at q1 q2 q3 q4 p1 p2 p3 p4
            have hqz : (w7.blk q).size = 37 := by rw [q3, stA_size]
            clear hE K7 HSt6 HCk6 HEnd HK6 HR3
            go_wp2_with (go_at_call 30; refine (HSt7.out _ grI).mono ?_; rintro e' w' ⟨V4, rfl, hR4, hU4, n8, rfl⟩; have HR4 := Lib.hid hR4; have HU4 := Lib.hid hU4; clear hR4 hU4)
            have HCm : Hid ((w7.setRow q (stA V4 E4.now.num)).plus n8 = (w7.plus n8).setRow q (stA V4 E4.now.num)) := by rw [Hid]; go_simp
            have hg8 : Grow w7 (w7.plus n8) := ⟨n8, rfl⟩
            have k9 : Kept (fun k => k = q) (w7.plus n8) ((w7.plus n8).setRow q (stA V4 E4.now.num)) := (Kept.refl (fun k => k = q) _).setRow q _ (fun _ => rfl)
            have hGw : Grow w ((w7.plus n8).setRow q (stA V4 E4.now.num)) := k9.grow_of (HK7.out.grow.trans hg8) (fun k hk => by rw [show k = q from hk]; omega)
            have hq9 : ((w7.plus n8).setRow q (stA V4 E4.now.num)).blk q = stA V4 E4.now.num := by go_simp
            have hp9 : ((w7.plus n8).setRow q (stA V4 E4.now.num)).blk w.heap.size = stA V S.num := by
              rw [k9.blk _ (Nat.lt_of_lt_of_le p2 hg8.size) (fun e => by have e : w.heap.size = q := e; omega), (hg8.kept (fun _ => False)).blk _ p2 (fun h => h)]
              exact p3
            have hs9 := Nat.le_trans hg8.size k9.size
            have hb1 : q < ((w7.plus n8).setRow q (stA V4 E4.now.num)).heap.size := by omega
            have hb2 : w.heap.size < ((w7.plus n8).setRow q (stA V4 E4.now.num)).heap.size := by omega
            have hf1 : ((w7.plus n8).setRow q (stA V4 E4.now.num)).free q = true := by
              have : (w7.plus n8).free q = true := by rw [(hg8.kept (fun _ => False)).free _ q2 (fun h => h)]; exact q4
              go_simp
            have hf2 : ((w7.plus n8).setRow q (stA V4 E4.now.num)).free w.heap.size = true := by
              rw [k9.free _ (Nat.lt_of_lt_of_le p2 hg8.size) (fun e => by have e : w.heap.size = q := e; omega), (hg8.kept (fun _ => False)).free _ p2 (fun h => h)]
              exact p4
            have HRS9 : Hid (RS E4.now V4 ((w7.plus n8).setRow q (stA V4 E4.now.num))) := ⟨HR4.out.kept k9 (fun k hk e => by have := (HU4.out k hk).1; have e : k = q := e; omega), HF4.out.right, HF4.out.small, HGL.out.grow hGw⟩
            have HEm9 : Hid (Emt ((w7.plus n8).setRow q (stA V4 E4.now.num)) b own7 E4) := (HK7.out.em.grow hg8).kept k9 (fun k hk e => q1 (by rw [← show k = q from e]; exact hk))
            have HGw := Lib.hid hGw
            clear HK7 HSt7 HR4 HU4 k9 hGw hg8 hs9 q1 q2 q3 q4 p1 p2 p3 p4 hqz hqw
            rw [HCm.out]
            generalize (w7.plus n8).setRow q (stA V4 E4.now.num) = W9 at *
            have hc1 := cell_of_blk hf1 hq9
            have hc2 := cell_of_blk hf2 hp9
            have h4n : V4.objs.n = S.objs.length := by rw [HRS9.out.rep.objs.len]; exact hle4
            have HEr9 := Lib.hid (fun W (g : Grow W9 W) => by have := err_any W b own7 _ (HEm9.out.grow g); rw [HF4.out.err, errV_0] at this; exact this)
            have HCk9 := Lib.hid (fun W (g : Grow W9 W) => by have := refCheck_any E4.now V4 W (HRS9.out.grow g).rep HF4.out.small; rw [(checkN_zero E4.now).2 HF4.out.right] at this; exact this)
            have HAt9 := Lib.hid (fun W (g : Grow W9 W) => by have := attackers_any E4.now V4 W (HRS9.out.grow g); rw [HN4.out.1] at this; exact this)
            have HHi9 := Lib.hid (fun W (g : Grow W9 W) => by have := allHits_any E4.now V4 W (HRS9.out.grow g) (by omega); rw [HN4.out.2] at this; exact this)
            clear HRS9 HEm9
            go_region_held3 (fun W => W.blk q = stA V4 E4.now.num ∧ W.blk w.heap.size = stA V S.num ∧ W.cell? ⟨q, 0, none⟩ = some V4.objs.val ∧ W.cell? ⟨w.heap.size, 0, none⟩ = some V.objs.val) (simp [go_sem, *]) (first | (go_at_call 29; refine (HEr9.out _ grI).mono ?_; rintro e' w' ⟨rfl, nx, rfl⟩) | (go_at_call 28; refine (HCk9.out _ grI).mono ?_; rintro e' w' ⟨rfl, nx, rfl⟩) | (go_at_call 11; refine (HAt9.out _ grI).mono ?_; rintro e' w' ⟨sa, rfl, hRa, na, rfl⟩; have hsa : sa.n = 0 := hRa.len; clear hRa) | (go_at_call 8; refine (HHi9.out _ grI).mono ?_; rintro e' w' ⟨sh, rfl, hRh, nh, rfl⟩; have hsh : sh.n = 0 := hRh.len; clear hRh))
            all_goals
              go_wp2_with fail
              go_ret
              exact ⟨rfl, HGw.out.trans grI⟩
          · have hEr := fun W (g : Grow w5 W) => err_any W b own5 _ (HK5.out.em.grow g)
            rw [errV_is he2] at hEr
            have HEr5 := Lib.hid hEr
            have HG5 := Lib.hid HK5.out.grow
            clear hEr he2
            go_wp2_with (go_at_call 29; refine (HEr5.out _ grI).mono ?_; rintro e' w' ⟨rfl, nx, rfl⟩)
            go_ret
            exact ⟨rfl, HG5.out.trans grI⟩
    · have hE1 : (⟨S, [], [], [], 0⟩ : Em).fight S l1 = (⟨S, [], [], [], 0⟩ : Em).fail (fightTo S l1 l1.length) := if_neg hz
      have hEr := fun W (g : Grow w2 W) => err_any W b own2 _ (HK2.out.em.grow g)
      rw [show (⟨S, [], [], [], 0⟩ : Em).now = S from rfl, hE1, fail_err rfl, errV_is hz] at hEr
      have HEr := Lib.hid hEr
      have HG2 := Lib.hid HK2.out.grow
      generalize fightTo S l1 l1.length = z at *
      clear hEr hE1 hz
      go_wp2_with (go_at_call 29; refine (HEr.out _ grI).mono ?_; rintro e' w' ⟨rfl, nx, rfl⟩)
      go_ret
      exact ⟨rfl, HG2.out.trans grI⟩
  · have hck2 : (checkN S != 0) = true := by simpa using hck
    clear R GL hl HA hsm hSm hck
    generalize checkN S = n at *
    go_enter Tryz.func5, Tryz.ntmps5
    go_wp2_with (first | (go_at_call 6; refine (HAl.out _ grI).mono ?_; rintro e' w' ⟨rfl, nx, rfl⟩) | (go_at_call 7; refine (HLo.out _ grI).mono ?_; rintro e' w' ⟨rfl, nx, rfl⟩) | (go_at_call 28; refine (HCk.out _ grI).mono ?_; rintro e' w' ⟨rfl, nx, rfl⟩))
    go_ret
    exact ⟨rfl, grI⟩
end Go.Proofs.YtnjdkkgkaafdbaaGreatDoor
