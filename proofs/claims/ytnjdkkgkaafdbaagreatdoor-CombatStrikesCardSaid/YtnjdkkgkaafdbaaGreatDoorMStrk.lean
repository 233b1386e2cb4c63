/-
  The walk of the law CombatStrikes.
-/
import Derived.Test.YtnjdkkgkaafdbaaGreatDoorMRc6
import Derived.Test.YtnjdkkgkaafdbaaGreatDoorMRc5
import Derived.Test.YtnjdkkgkaafdbaaGreatDoorMRc3
import Derived.Test.YtnjdkkgkaafdbaaGreatDoorMFIs20
import Derived.Deep.RegionHeld3
namespace Go.Proofs.YtnjdkkgkaafdbaaGreatDoor
open Go Go.RowKit Go.Shelf

theorem flatMap_len {α β : Type} (f : α → List β) (c : Nat) : ∀ l : List α, (∀ a ∈ l, (f a).length ≤ c) → (l.flatMap f).length ≤ l.length * c
  | [], _ => by simp
  | a :: l, h => by
    rw [List.flatMap_cons, List.length_append, List.length_cons, Nat.succ_mul]
    have h1 := flatMap_len f c l (fun x hx => h x (by simp [hx]))
    have h2 := h a (by simp)
    omega
theorem hits_few (S : St) (h : (S.list 8).length ≤ 34) : (HitsN S).length ≤ 2346 := by
  have h1 : (HitsN S).length ≤ (rawN S).length := List.length_filter_le _ _
  have h2 : (rawN S).length ≤ (attackersN S).length * 69 := flatMap_len _ _ _ (fun a _ => by
    have := hitsN_len S a
    have h3 : (blockersN S a).length ≤ (S.list 8).length := List.length_filter_le _ _
    omega)
  have h3 : (attackersN S).length ≤ (S.list 8).length := List.length_filter_le _ _
  omega
/-- An emitter of a right state, new. -/
theorem Fi.new {S : St} (h : Right S) (hw : ∀ i, i < S.objs.length → (rowAt S.objs i).length = 18) : Fi S 0 ⟨S, [], [], [], 0⟩ :=
  ⟨rfl, h, hw, rfl, rfl, fun _ => rfl, Nat.le_refl _, rfl⟩
/-- What is asked of any state, told alike by the program and the document. -/
structure Told (S : St) (V : SV) (w : World) (id a : Int) (L : List (List Int)) (A : List Int) (q : Bool) : Prop where
  few : L.length ≤ 2346
  few' : A.length ≤ 34
  hits : ∀ W, Grow w W → Calls Tryz.prog 8 #[.agg (stA V S.num)] W fun e w' => ∃ s : Sl, e = .returned s.val ∧ Rows' w' s 3 L ∧ Grow W w'
  hits' : ∀ W, Grow w W → Calls Tryz.prog 9 #[.agg (stA V S.num)] W fun e w' => ∃ s : Sl, e = .returned s.val ∧ Rows' w' s 3 L ∧ Grow W w'
  att : ∀ W, Grow w W → Calls Tryz.prog 11 #[.agg (stA V S.num)] W fun e w' => ∃ s : Sl, e = .returned s.val ∧ Ints w' s A ∧ Grow W w'
  att' : ∀ W, Grow w W → Calls Tryz.prog 12 #[.agg (stA V S.num)] W fun e w' => ∃ s : Sl, e = .returned s.val ∧ Ints w' s A ∧ Grow W w'
  stop : ∀ W, Grow w W → Calls Tryz.prog 13 #[.agg (stA V S.num), .int .i64 id, .int .i64 a] W fun e w' => e = .returned (.bool q) ∧ Grow W w'
  stop' : ∀ W, Grow w W → Calls Tryz.prog 14 #[.agg (stA V S.num), .int .i64 id, .int .i64 a] W fun e w' => e = .returned (.bool q) ∧ Grow W w'
theorem told_any (T8 : Table08) (O : Of17) (S : St) (V : SV) (w : World) (R : RepSt w V S) (GL : Glob w) (hS : Small S) (h8 : (S.list 8).length ≤ 34) (id a : Int) : ∃ L A q, Told S V w id a L A q := by
  by_cases hck : checkN S = 0
  · have h : RS S V w := ⟨R, (checkN_zero S).1 hck, hS, GL⟩
    refine ⟨HitsN S, attackersN S, stopsB S id a, hits_few S h8, Nat.le_trans (List.length_filter_le _ _) h8, fun W g => allHits_any S V W (h.grow g) (by omega), fun W g => (hits24_good T8 O S V W (h.grow g) (by omega)).mono ?_, fun W g => attackers_any S V W (h.grow g), fun W g => (att24_good T8 S V W (h.grow g)).mono ?_, fun W g => stops_any S V W (h.grow g) id a, fun W g => stops24_good T8 O S V W (h.grow g) id a⟩
    · rintro e w' ⟨s, h1, h2, _, h3⟩
      exact ⟨s, h1, h2, h3⟩
    · rintro e w' ⟨s, h1, h2, _, h3⟩
      exact ⟨s, h1, h2, h3⟩
  · have h : WS S V w := ⟨R, hS, GL, hck⟩
    exact ⟨[], [], false, by simp, by simp, fun W g => hits_wrong S V W (h.grow g), fun W g => hits24_wrong S V W (h.grow g), fun W g => attackers_wrong S V W (h.grow g), fun W g => att24_wrong T8 S V W (h.grow g), fun W g => stops_wrong S V W (h.grow g) id a, fun W g => stops24_wrong T8 S V W (h.grow g) id a⟩
set_option maxRecDepth 100000 in
set_option maxHeartbeats 8000000 in
theorem strk_law (T8 : Table08) (O : Of17) (S : St) (V : SV) (w : World) (R : RepSt w V S) (GL : Glob w) (HA : ∀ W, Grow w W → Calls Tryz.prog 6 #[] W fun e w' => e = .returned (.bool true) ∧ Grow W w') (id a : Int) :
    Calls Tryz.prog 3 #[.agg (stA V S.num), .int .i64 id, .int .i64 a] w fun e w' => e = .returned (.bool true) ∧ Grow w w' := by
  have HAl := Lib.hid HA
  have HLo := Lib.hid (fun W (g : Grow w W) => long_any S V 24 (by omega) W (R.grow g))
  cases hl : longB S 24 with
  | true =>
    rw [hl] at HLo
    clear R GL hl HA O T8
    go_enter Tryz.func3, Tryz.ntmps3
    go_wp2_with (first | (go_at_call 6; refine (HAl.out _ grI).mono ?_; rintro e' w' ⟨rfl, nx, rfl⟩) | (go_at_call 7; refine (HLo.out _ grI).mono ?_; rintro e' w' ⟨rfl, nx, rfl⟩))
    go_ret
    exact ⟨rfl, grI⟩
  | false =>
  have hsm : SmallN S 34 := long_small 24 hl
  have hSm := hsm.small (show 34 ≤ 1048576 by omega)
  have h8 : (S.list 8).length ≤ 34 := hsm.list 8 (by omega)
  rw [hl] at HLo
  obtain ⟨L, A, q, T⟩ := told_any T8 O S V w R GL hSm h8 id a
  have HNew := Lib.hid (fun W (g : Grow w W) => new_any S V W (R.grow g) hSm (GL.grow g) .nil [] (Ints.nil W) (by simp))
  have HGNew := Lib.hid (fun W (g : Grow w W) => gnew_any S V W (R.grow g) hSm)
  have HInt := Lib.hid (fun W sa sb (r1 : Ints W sa A) (r2 : Ints W sb A) => ints_same W sa sb A r1 r2 (by have := T.few'; omega))
  have HT := Lib.hid T
  have hLf := T.few
  have HGL := Lib.hid GL
  have HR := Lib.hid R
  have HSm := Lib.hid hSm
  have HT8 := Lib.hid T8
  have HO17 := Lib.hid O
  have hnil : (Sl.nil).val = Value.slice none 0 0 := rfl
  rw [hnil] at HNew
  clear hl HA R GL hSm hsm T8 O hnil T
  go_enter Tryz.func3, Tryz.ntmps3
  go_wp2_with (first | (go_at_call 6; refine (HAl.out _ grI).mono ?_; rintro e' w' ⟨rfl, nA, rfl⟩) | (go_at_call 7; refine (HLo.out _ grI).mono ?_; rintro e' w' ⟨rfl, nL, rfl⟩))
  go_region_held3 (fun W => W.blk w.heap.size = stA V S.num) (simp [go_sem, *]) (first | (go_at_call 8; refine (HT.out.hits _ grI).mono ?_; rintro e' w' ⟨s1, rfl, hR1, n1, rfl⟩; (try simp only [drew_plus] at hR1); (try simp only [plus_plus] at hR1); have hn1 := hR1.len; have HR1 := Lib.hid hR1; clear hR1) | (go_at_call 9; refine (HT.out.hits' _ grI).mono ?_; rintro e' w' ⟨s2, rfl, hR2, n2, rfl⟩; (try simp only [drew_plus] at hR2); (try simp only [plus_plus] at hR2); have hn2 := hR2.len; have HR2 := Lib.hid hR2; clear hR2))
  go_wp2_with fail
  go_region_held3 (fun W => W.blk w.heap.size = stA V S.num) (simp [go_sem, *]) (first | (go_at_call 11; refine (HT.out.att _ grI).mono ?_; rintro e' w' ⟨sa, rfl, hRa, na, rfl⟩; (try simp only [drew_plus] at hRa); (try simp only [plus_plus] at hRa); have HRa := Lib.hid hRa; clear hRa) | (go_at_call 12; refine (HT.out.att' _ grI).mono ?_; rintro e' w' ⟨sb, rfl, hRb, nb, rfl⟩; (try simp only [drew_plus] at hRb); (try simp only [plus_plus] at hRb); have HRb := Lib.hid hRb; clear hRb) | (go_at_call 10; refine (HInt.out _ sa sb (HRa.out.grow grI) (HRb.out.grow grI)).mono ?_; rintro e' w' ⟨rfl, ni, rfl⟩) | (go_at_call 13; refine (HT.out.stop _ grI).mono ?_; rintro e' w' ⟨rfl, ns, rfl⟩) | (go_at_call 14; refine (HT.out.stop' _ grI).mono ?_; rintro e' w' ⟨rfl, nt, rfl⟩))
  go_wp2_with fail
  go_loopw [46] (fun i wr => ∃ k : Nat, k ≤ L.length ∧ i = .int .i64 k ∧ Rows' wr s1 3 L ∧ Rows' wr s2 3 L ∧ Grow (w.alloc (.cells (stA V S.num) 29)) wr) (fun i _ => L.length - (intOf i).toNat)
  case atStart => exact ⟨0, by omega, rfl, HR1.out.grow grI, HR2.out.grow grI, grI⟩
  case round =>
    obtain ⟨k, hk, rfl, hr1, hr2, hG⟩ := hrel
    by_cases hlt : k < L.length
    · obtain ⟨qb, qw, qsz, qsub, qc⟩ := hr1.at (by omega) k hlt
      obtain ⟨pb, pw, psz, psub, pc⟩ := hr2.at (by omega) k hlt
      have HR1k := Lib.hid hr1
      have HR2k := Lib.hid hr2
      have HGk := Lib.hid hG
      clear qc pc hr1 hr2 hG
      generalize rowAt L k = row at *
      go_wp2_with fail
      refine wp_region_grow (by kernel_rfl) (by kernel_rfl) ?_; (repeat (go_big_quiet_step ( fail ))); refine wpQuiet_nil ?_; rintro _ ⟨nx, rfl⟩
      go_wp2_with fail
      go_roundw
      case rel => exact ⟨k + 1, by omega, by go_num, HR1k.out.grow grI, HR2k.out.grow grI, HGk.out.trans grI⟩
      case measure => simp [intOf]; omega
    · obtain ⟨x, rfl⟩ := hG
      clear hr1 hr2 HR1 HR2 HRa HRb HInt HT hn1 hn2
      go_wp2_with fail
      go_region_held3 (fun W => W.blk w.heap.size = stA V S.num) (simp [go_sem, *]) (first | (go_at_call 15; refine (HNew.out _ grI).mono ?_; rintro e' w' ⟨b, own, rfl, hem, hown, nN, rfl⟩; have HEM := Lib.hid hem; have HOW := Lib.hid hown; clear hem hown) | (go_at_call 16; refine (HGNew.out _ grI).mono ?_; rintro e' w' ⟨bg, og, rfl, hgm, hog, nG, rfl⟩; have HGM := Lib.hid hgm; have HOG := Lib.hid hog; clear hgm hog))
      have hem := HEM.out
      (try simp only [drew_plus] at hem); (try simp only [plus_plus] at hem)
      have hgm := HGM.out
      (try simp only [drew_plus] at hgm); (try simp only [plus_plus] at hgm)
      have hown := HOW.out
      have hog := HOG.out
      simp only [drew_plus, plus_size, alloc_size', Ext.and, Ext.late, Array.size_append, show ∀ (W : World), W.drew.heap.size = W.heap.size from fun _ => rfl] at hown hog
      have hG0 : Grow w ((w.alloc (.cells (stA V S.num) 29)).plus ((x.and nN.late).and nG)) := grI
      have hem1 : Emt ((w.alloc (.cells (stA V S.num) 29)).plus ((x.and nN.late).and nG)) b own (Em.new S []) := hem.grow grI
      have hdj : ∀ k, own k → ¬ og k := fun k h1 h2 => by have := hown k h1; have := hog k h2; omega
      have hownw : ∀ k, own k → w.heap.size ≤ k := fun k h1 => by have := hown k h1; omega
      have hogw : ∀ k, og k → w.heap.size ≤ k := fun k h1 => by have := hog k h1; omega
      clear hem hown hog HEM HGM HOW HOG HAl HLo HNew HGNew hk hlt
      generalize (w.alloc (.cells (stA V S.num) 29)).plus ((x.and nN.late).and nG) = W1 at *
      have hogl := hgm.lt
      have howl := hem1.lt
      have HEM := Lib.hid hem1
      have HGM := Lib.hid hgm
      have HDJ := Lib.hid hdj
      have HOW := Lib.hid hownw
      have HOG := Lib.hid hogw
      have HG0 := Lib.hid hG0
      have HOL := Lib.hid hogl
      have HOM := Lib.hid howl
      have HVr := Lib.hid (show ∀ (f : Nat → Prop), (∀ k, f k → w.heap.size ≤ k) → ∀ k, (k = 0 ∨ k = 1 ∨ k = 2) → ¬ f k from fun f hf k hk h => by
        obtain ⟨z1, z2, z3⟩ := HGL.out.size
        have := hf k h
        rcases hk with rfl | rfl | rfl <;> omega)
      clear hem1 hgm hdj hownw hogw hG0 hogl howl
      have HS0 := Lib.hid (fun W (g : Grow w W) => strikeAll_bad W (.pointer none) 4 (by decide) (errsAt_nil W) (HGL.out.grow g))
      have HE0 := Lib.hid (fun W => end_bad W (.pointer none) 4 (by decide) (errsAt_nil W))
      by_cases hck : checkN S = 0
      · have hRt : Right S := (checkN_zero S).1 hck
        have hF0 := Fi.new hRt HR.out.objs.wid
        have hfew := hits_few S h8
        have hF1 : Fi S (2 * (HitsN S).length) (Em.strikes ⟨S, [], [], [], 0⟩ S (HitsN S)) := by
          have := hF0.strikes hRt (by omega) (HitsN S).length (Nat.le_refl _)
          rwa [List.take_length] at this
        rw [new_is hck] at HEM HGM
        have HStr := Lib.hid (show ∀ W, Grow W1 W → Calls Tryz.prog 17 #[.pointer (some ⟨b, 0, none⟩)] W fun r w' => r = .returned (.tuple #[]) ∧ EPost W b own (Em.strikes ⟨S, [], [], [], 0⟩ S (HitsN S)) w' from fun W g => strikeAll_good W b own ⟨S, [], [], [], 0⟩ (HEM.out.grow g) (HGL.out.grow (HG0.out.trans g)) (HVr.out _ HOW.out) hF0 (by show (S.list 8).length ≤ 1000; omega) (by show 2 * (HitsN S).length ≤ 65536; omega))
        have HGStr := Lib.hid (show ∀ W (og2 : Nat → Prop), Gmt W bg og2 ⟨S, [], [], [], 0⟩ → Grow w W → (∀ k, og2 k → w.heap.size ≤ k) → Calls Tryz.prog 18 #[.pointer (some ⟨bg, 0, none⟩)] W fun r w' => r = .returned (.tuple #[]) ∧ DPost W bg og2 (Em.strikes ⟨S, [], [], [], 0⟩ S (HitsN S)) w' from fun W og2 r g ho => strike24_good HO17.out (fun S V W h h8 => hits24_good HT8.out HO17.out S V W h h8) W bg og2 ⟨S, [], [], [], 0⟩ r (HGL.out.grow g) (HVr.out _ ho) hF0 (by show (S.list 8).length ≤ 1000; omega) (by show 2 * (HitsN S).length < 65536; omega))
        generalize Em.strikes ⟨S, [], [], [], 0⟩ S (HitsN S) = E1 at *
        have hF2 : Fi S (2 * (HitsN S).length + 2 * (S.list 8).length) (E1.ends (S.list 8)) := by
          have := hF1.ends hRt (by omega) (S.list 8).length (Nat.le_refl _)
          rwa [List.take_length] at this
        have HEnd := Lib.hid (fun W own2 (r : Emt W b own2 E1) => end_good W b own2 E1 r S hRt _ hF1 (by omega))
        have HGEnd := Lib.hid (fun W og2 (r : Gmt W bg og2 E1) => end24_good W bg og2 E1 r S hRt _ hF1 (by omega))
        generalize E1.ends (S.list 8) = E2 at *
        have HIs1 := Lib.hid (fun W own2 og2 (r : Emt W b own2 E1) (rg : Gmt W bg og2 E1) => is19_good W b bg own2 og2 _ r rg hF1.err hF1.small (by have := hF1.evs; omega) (by rw [hF1.pend]; simp))
        have HIs2 := Lib.hid (fun W own2 og2 (r : Emt W b own2 E2) (rg : Gmt W bg og2 E2) => is19_good W b bg own2 og2 _ r rg hF2.err hF2.small (by have := hF2.evs; omega) (by rw [hF2.pend]; simp))
        clear hck hRt hF0 hF1 hF2 hfew h8
        go_wp2_with fail
        refine (HStr.out _ grI).mono ?_
        rintro e' w2 ⟨rfl, hE⟩
        obtain ⟨own2, T2⟩ := (Turn.first HEM.out).step grI hE
        have hG2 : Grow w w2 := T2.kept.grow_of HG0.out (fun k hk => HOW.out k hk)
        have HG2m := Lib.hid (show Gmt w2 bg og ⟨S, [], [], [], 0⟩ from HGM.out.kept T2.kept (fun k h1 h2 => HDJ.out k h2 h1))
        have HG2 := Lib.hid hG2
        have HT2 := Lib.hid T2
        clear hE hG2 T2
        go_wp2_with fail
        refine (HGStr.out _ og (HG2m.out.grow grI) (HG2.out.trans grI) HOG.out).mono ?_
        rintro e' w3 ⟨rfl, hE⟩
        obtain ⟨og3, T3⟩ := (TurnG.first HG2m.out).step grI hE
        have hdj3 : ∀ k, own2 k → ¬ og3 k := fun k h1 h2 => by
          have hs := HT2.out.kept.size
          rcases HT2.out.own k h1 with h | h <;> rcases T3.own k h2 with h3 | h3
          · exact HDJ.out k h h3
          · have := HOM.out k h; omega
          · have := HOL.out k h3; omega
          · omega
        have hm3 : Emt w3 b own2 E1 := HT2.out.em.kept T3.kept (fun k h1 h2 => by
          rcases HT2.out.own k h1 with h | h
          · exact HDJ.out k h h2
          · have := HOL.out k h2; omega)
        have hG3 : Grow w w3 := T3.kept.grow_of HG2.out (fun k hk => HOG.out k hk)
        have hog3 : ∀ k, og3 k → w.heap.size ≤ k ∧ k < w3.heap.size := fun k hk => by
          have hs := HG2.out.size
          have hs2 := T3.kept.size
          rcases T3.own k hk with h | h
          · have := HOG.out k h; have := HOL.out k h; have := HT2.out.kept.size; omega
          · omega
        have how3 : ∀ k, own2 k → w.heap.size ≤ k := fun k hk => by
          have hs := HG0.out.size
          rcases HT2.out.own k hk with h | h
          · exact HOW.out k h
          · omega
        have HM3 := Lib.hid hm3
        have HT3 := Lib.hid T3
        have HG3 := Lib.hid hG3
        have HDJ3 := Lib.hid hdj3
        have HOG3 := Lib.hid hog3
        have HOW3 := Lib.hid how3
        clear hE hm3 T3 hG3 hdj3 hog3 how3
        go_wp2_with (go_at_call 19; refine (HIs1.out _ own2 og3 (HM3.out.grow grI) (HT3.out.em.grow grI)).mono ?_; rintro e' w' ⟨rfl, nI, rfl⟩)
        refine (HEnd.out _ own2 (HM3.out.grow grI)).mono ?_
        rintro e' w4 ⟨rfl, hE⟩
        obtain ⟨own4, T4⟩ := (Turn.first HM3.out).step grI hE
        have hg4 : Gmt w4 bg og3 E1 := HT3.out.em.kept T4.kept (fun k h1 h2 => HDJ3.out k h2 h1)
        have hG4 : Grow w w4 := T4.kept.grow_of HG3.out (fun k hk => HOW3.out k hk)
        have hdj4 : ∀ k, own4 k → ¬ og3 k := fun k h1 h2 => by
          rcases T4.own k h1 with h | h
          · exact HDJ3.out k h h2
          · have := (HOG3.out k h2).2; omega
        have HG4m := Lib.hid hg4
        have HG4 := Lib.hid hG4
        have HDJ4 := Lib.hid hdj4
        have HT4 := Lib.hid T4
        clear hE hg4 hG4 hdj4 T4
        go_wp2_with fail
        refine (HGEnd.out _ og3 (HG4m.out.grow grI)).mono ?_
        rintro e' w5 ⟨rfl, hE⟩
        obtain ⟨og5, T5⟩ := (TurnG.first HG4m.out).step grI hE
        have hm5 : Emt w5 b own4 E2 := HT4.out.em.kept T5.kept (fun k h1 h2 => HDJ4.out k h1 h2)
        have hG5 : Grow w w5 := T5.kept.grow_of HG4.out (fun k hk => (HOG3.out k hk).1)
        have HM5 := Lib.hid hm5
        have HT5 := Lib.hid T5
        have HG5 := Lib.hid hG5
        clear hE hm5 T5 hG5
        go_wp2_with (first | (go_at_call 17; refine (HS0.out _ (HG5.out.trans grI)).mono ?_; rintro e' w' ⟨rfl, nS, rfl⟩) | (go_at_call 20; refine (HE0.out _).mono ?_; rintro e' w' ⟨rfl, nE, rfl⟩) | (go_at_call 19; refine (HIs2.out _ own4 og5 (HM5.out.grow grI) (HT5.out.em.grow grI)).mono ?_; rintro e' w' ⟨rfl, nJ, rfl⟩))
        go_ret
        exact ⟨rfl, HG5.out.trans grI⟩
      · have he : (Em.new S []).err ≠ 0 := by rw [new_nil]; exact hck
        have hnow : (Em.new S []).now = S := by rw [new_nil]
        have hevs : (Em.new S []).evs.length ≤ 65536 := by rw [new_nil]; simp
        have hpen : (Em.new S []).pend.length ≤ 65536 := by rw [new_nil]; simp
        have HStr := Lib.hid (show ∀ W, Grow W1 W → ∀ m, m = .pointer (some ⟨b, 0, none⟩) ∨ m = .pointer none → Calls Tryz.prog 17 #[m] W fun r w' => r = .returned (.tuple #[]) ∧ Grow W w' from fun W g m hm => by
          rcases hm with rfl | rfl
          · exact strikeAll_bad W _ _ he (errsAt_em (HEM.out.grow g)) (HGL.out.grow (HG0.out.trans g))
          · exact HS0.out W (HG0.out.trans g))
        have HEnd := Lib.hid (show ∀ W, Grow W1 W → ∀ m, m = .pointer (some ⟨b, 0, none⟩) ∨ m = .pointer none → Calls Tryz.prog 20 #[m] W fun r w' => r = .returned (.tuple #[]) ∧ Grow W w' from fun W g m hm => by
          rcases hm with rfl | rfl
          · exact end_bad W _ _ he (errsAt_em (HEM.out.grow g))
          · exact HE0.out W)
        have HGStr := Lib.hid (fun W (g : Grow W1 W) => strike24_bad W bg og _ (HGM.out.grow g) he)
        have HGEnd := Lib.hid (fun W (g : Grow W1 W) => end24_bad W bg og _ (HGM.out.grow g) he)
        have HIs := Lib.hid (fun W (g : Grow W1 W) => is19_bad W b bg own og _ _ (HEM.out.grow g) (HGM.out.grow g) he rfl (by rw [hnow]; exact HSm.out) hevs hpen)
        clear he hnow hevs hpen hck HS0 HE0
        go_wp2_with (first | (go_at_call 17; refine (HStr.out _ grI _ (by first | exact .inl rfl | exact .inr rfl)).mono ?_; rintro e' w' ⟨rfl, nx, rfl⟩) | (go_at_call 20; refine (HEnd.out _ grI _ (by first | exact .inl rfl | exact .inr rfl)).mono ?_; rintro e' w' ⟨rfl, nx, rfl⟩) | (go_at_call 18; refine (HGStr.out _ grI).mono ?_; rintro e' w' ⟨rfl, nx, rfl⟩) | (go_at_call 21; refine (HGEnd.out _ grI).mono ?_; rintro e' w' ⟨rfl, nx, rfl⟩) | (go_at_call 19; refine (HIs.out _ grI).mono ?_; rintro e' w' ⟨rfl, nx, rfl⟩))
        go_ret
        exact ⟨rfl, HG0.out.trans grI⟩
end Go.Proofs.YtnjdkkgkaafdbaaGreatDoor
