/-
  The walk of the law CombatDeclares: what is told of any state.
  The walk of the law CombatDeclares.
-/
import Derived.Test.YtnjdkkgkaafdbaaGreatDoorMDc5
import Derived.Test.YtnjdkkgkaafdbaaGreatDoorMFIs20
import Derived.Deep.RegionHeld3
namespace Go.Proofs.YtnjdkkgkaafdbaaGreatDoor
open Go Go.RowKit Go.Shelf

theorem Fi.new12 {S : St} (h : Right S) (hw : ∀ i, i < S.objs.length → (rowAt S.objs i).length = 18) : Fi S 0 ⟨S, [], [], [], 0⟩ :=
  ⟨rfl, h, hw, rfl, rfl, fun _ => rfl, Nat.le_refl _, rfl⟩
theorem Fi.base12 {S : St} {m : Nat} {E : Em} (h : Fi S m E) (hnow : E.now = S) : Fi E.now m E := by rw [hnow]; exact h
theorem defend_err {E : Em} (h : E.err ≠ 0) (S : St) (l : List Int) : E.defend S l = E := by
  have h1 : E.odd l = E := by
    unfold Em.odd
    split
    · rfl
    · exact fail_stays h 2
  unfold Em.defend
  rw [h1, fail_stays h, if_neg h]
/-- What a declaring does to a new emitter of any state, the program's and the document's alike. -/
structure Decl (S : St) (w : World) (f f' : FuncId) (s : Sl) (EF : Em) : Prop where
  prog : ∀ W b own, Grow w W → Emt W b own (Em.new S []) → (∀ k, own k → w.heap.size ≤ k) → Calls Tryz.prog f #[.pointer (some ⟨b, 0, none⟩), s.val] W fun r w' => r = .returned (.tuple #[]) ∧ EPost W b own EF w'
  doc : ∀ W b own, Grow w W → Gmt W b own (Em.new S []) → (∀ k, own k → w.heap.size ≤ k) → Calls Tryz.prog f' #[.pointer (some ⟨b, 0, none⟩), s.val] W fun r w' => r = .returned (.tuple #[]) ∧ DPost W b own EF w'
  is : ∀ W b bg own og, Emt W b own EF → Gmt W bg og EF → Calls Tryz.prog 19 #[.pointer (some ⟨b, 0, none⟩), .pointer (some ⟨bg, 0, none⟩)] W fun e w' => e = .returned (.bool true) ∧ Grow W w'
theorem glob_low {w : World} (GL : Glob w) {f : Nat → Prop} (hf : ∀ k, f k → w.heap.size ≤ k) : ∀ k, (k = 0 ∨ k = 1 ∨ k = 2) → ¬ f k := fun k hk h => by
  obtain ⟨z1, z2, z3⟩ := GL.size
  have := hf k h
  rcases hk with rfl | rfl | rfl <;> omega
theorem low_list {w : World} {s : Sl} {l : List Int} (I1 : Ints w s l) {f : Nat → Prop} (hf : ∀ k, f k → w.heap.size ≤ k) : 0 < l.length → ¬ f s.b := fun h hq => by
  have := (I1.at 0 h).1; have := hf _ hq; omega
theorem fail_now12 (E : Em) (n : Int) : (E.fail n).now = E.now ∧ (E.fail n).evs = E.evs ∧ (E.fail n).pend = E.pend := by
  unfold Em.fail
  split <;> exact ⟨rfl, rfl, rfl⟩
theorem is_fail {S : St} (hS : Small S) {E : Em} (he : E.err ≠ 0) (hn : E.now = S) (h1 : E.evs = []) (h2 : E.pend = []) : ∀ W b bg own og, Emt W b own E → Gmt W bg og E → Calls Tryz.prog 19 #[.pointer (some ⟨b, 0, none⟩), .pointer (some ⟨bg, 0, none⟩)] W fun e w' => e = .returned (.bool true) ∧ Grow W w' :=
  fun W b bg own og r rg => is19_bad W b bg own og E E r rg he rfl (by rw [hn]; exact hS) (by rw [h1]; simp) (by rw [h2]; simp)
theorem fight_told (T8 : Table08) (O : Of17) (S : St) (w : World) (hw : ∀ i, i < S.objs.length → (rowAt S.objs i).length = 18) (GL : Glob w) (hS : Small S) (s : Sl) (l : List Int) (I1 : Ints w s l) (hl : l.length ≤ 12) : ∃ EF, Decl S w 22 23 s EF := by
  by_cases hck : checkN S = 0
  · have hRt := (checkN_zero S).1 hck
    have F0 := Fi.new12 hRt hw
    refine ⟨(⟨S, [], [], [], 0⟩ : Em).fight S l, fun W b own g r hf => ?_, fun W b own g r hf => ?_, ?_⟩
    · rw [new_is hck] at r
      exact fight_good W b own ⟨S, [], [], [], 0⟩ r (GL.grow g) (glob_low GL hf) F0 s l (I1.grow g) (low_list I1 hf) (by omega)
    · rw [new_is hck] at r
      exact fight24_good T8 O W b own ⟨S, [], [], [], 0⟩ r (GL.grow g) (glob_low GL hf) F0 s l (I1.grow g) (low_list I1 hf) (by omega)
    · by_cases hz : fightTo S l l.length = 0
      · have e : (⟨S, [], [], [], 0⟩ : Em).fight S l = (⟨S, [], [], [], 0⟩ : Em).fights S l := if_pos hz
        have hF : Fi S (2 * l.length) ((⟨S, [], [], [], 0⟩ : Em).fights S l) := by
          have := F0.fights (by omega) hz l.length (Nat.le_refl _)
          rwa [List.take_length] at this
        rw [e]
        exact fun W b bg own og r rg => is19_good W b bg own og _ r rg hF.err hF.small (by have := hF.evs; omega) (by rw [hF.pend]; simp)
      · have e : (⟨S, [], [], [], 0⟩ : Em).fight S l = (⟨S, [], [], [], 0⟩ : Em).fail (fightTo S l l.length) := if_neg hz
        rw [e]
        obtain ⟨n1, n2, n3⟩ := fail_now12 ⟨S, [], [], [], 0⟩ (fightTo S l l.length)
        exact is_fail hS (by rw [fail_err rfl]; exact hz) n1 n2 n3
  · have he : (Em.new S []).err ≠ 0 := by rw [new_nil]; exact hck
    refine ⟨Em.new S [], fun W b own g r hf => (fight_bad W b own _ r he (GL.grow g) s l (I1.grow g) (by omega)).mono ?_, fun W b own g r hf => (fight24_bad W b own _ r he s.val).mono ?_, is_fail hS he (by rw [new_nil]) (by rw [new_nil]) (by rw [new_nil])⟩
    · rintro e w' ⟨rfl, g2⟩
      exact ⟨rfl, .of_grow r g2⟩
    · rintro e w' ⟨rfl, g2⟩
      exact ⟨rfl, .of_grow r g2⟩
theorem defend_told (T8 : Table08) (O : Of17) (S : St) (w : World) (hw : ∀ i, i < S.objs.length → (rowAt S.objs i).length = 18) (GL : Glob w) (hS : Small S) (s : Sl) (l : List Int) (I1 : Ints w s l) (hl : l.length ≤ 12) : ∃ EF, Decl S w 24 25 s EF := by
  by_cases hck : checkN S = 0
  · have hRt := (checkN_zero S).1 hck
    have F0 := Fi.new12 hRt hw
    have hst : (⟨S, [], [], [], 0⟩ : Em).state = S := if_neg (by simp)
    refine ⟨(⟨S, [], [], [], 0⟩ : Em).defend S l, fun W b own g r hf => ?_, fun W b own g r hf => ?_, ?_⟩
    · rw [new_is hck] at r
      have := defend_any W b own ⟨S, [], [], [], 0⟩ r (GL.grow g) (glob_low GL hf) (by rw [hst]; exact hRt) hS 0 (by omega) (fun _ => F0) s l (I1.grow g) (low_list I1 hf) (by omega)
      rwa [hst] at this
    · rw [new_is hck] at r
      by_cases hod : l.length % 2 = 1
      · rw [defend_odd rfl hod]
        exact defend24_odd W b own ⟨S, [], [], [], 0⟩ r rfl s l (I1.grow g) (by omega) hod
      · exact defend24_even T8 O W b own ⟨S, [], [], [], 0⟩ r (GL.grow g) (glob_low GL hf) F0 s l (I1.grow g) (low_list I1 hf) (by omega) (by omega)
    · by_cases he : (((⟨S, [], [], [], 0⟩ : Em).odd l).fail (defS S l (List.range ((l.length + 1) / 2))).1).err = 0
      · have e : (⟨S, [], [], [], 0⟩ : Em).defend S l = (⟨S, [], [], [], 0⟩ : Em).blocks l ((l.length + 1) / 2) := if_pos he
        have hF := Fi.blocks (m0 := 0) (by omega) hRt F0 (show l.length ≤ 1000 by omega) (by omega) (odd_zero he).2.2 _ (Nat.le_refl _)
        rw [e]
        exact fun W b bg own og r rg => is19_good W b bg own og _ r rg hF.err hF.small (by have := hF.evs; omega) (by rw [hF.pend]; simp)
      · have e : (⟨S, [], [], [], 0⟩ : Em).defend S l = ((⟨S, [], [], [], 0⟩ : Em).odd l).fail (defS S l (List.range ((l.length + 1) / 2))).1 := if_neg he
        obtain ⟨n1, n2, n3⟩ := fail_now12 ((⟨S, [], [], [], 0⟩ : Em).odd l) (defS S l (List.range ((l.length + 1) / 2))).1
        have ho : ((⟨S, [], [], [], 0⟩ : Em).odd l).now = S ∧ ((⟨S, [], [], [], 0⟩ : Em).odd l).evs = [] ∧ ((⟨S, [], [], [], 0⟩ : Em).odd l).pend = [] := by
          unfold Em.odd
          split
          · exact ⟨rfl, rfl, rfl⟩
          · exact fail_now12 _ _
        rw [e]
        exact is_fail hS he (n1.trans ho.1) (n2.trans ho.2.1) (n3.trans ho.2.2)
  · have he : (Em.new S []).err ≠ 0 := by rw [new_nil]; exact hck
    have hst : (Em.new S []).state = St0 := if_pos he
    refine ⟨Em.new S [], fun W b own g r hf => ?_, fun W b own g r hf => (defend24_bad W b own _ r he s.val).mono ?_, is_fail hS he (by rw [new_nil]) (by rw [new_nil]) (by rw [new_nil])⟩
    · have := defend_any W b own _ r (GL.grow g) (glob_low GL hf) (by rw [hst]; exact (rs_zero GL).right) (by rw [new_nil]; exact hS) 0 (by omega) (fun h => absurd h he) s l (I1.grow g) (low_list I1 hf) (by omega)
      rwa [defend_err he] at this
    · rintro e w' ⟨rfl, g2⟩
      exact ⟨rfl, .of_grow r g2⟩
end Go.Proofs.YtnjdkkgkaafdbaaGreatDoor
namespace Go.Proofs.YtnjdkkgkaafdbaaGreatDoor
open Go Go.RowKit Go.Shelf

/-- A half of the law's walk, behind its two new emitters: what the two declare is the same. -/
theorem decl_after {S : St} {V : SV} {w W1 : World} {f f' : FuncId} {s : Sl} {EF : Em} (D : Decl S w f f' s EF) {b bg : Nat} {own og : Nat → Prop} (hG : Grow w W1) (R : Emt W1 b own (Em.new S [])) (RG : Gmt W1 bg og (Em.new S [])) (ho : ∀ k, own k → w.heap.size < k) (hg : ∀ k, og k → w.heap.size < k) (hd : ∀ k, own k → ¬ og k) (hl : w.heap.size < W1.heap.size) (hb : W1.blk w.heap.size = stA V S.num) (hf : W1.free w.heap.size = true) :
    ∀ Wx, Grow W1 Wx → Calls Tryz.prog f #[.pointer (some ⟨b, 0, none⟩), s.val] Wx fun r w2 => r = .returned (.tuple #[]) ∧ w.heap.size < w2.heap.size ∧
      ∀ Wy, Grow w2 Wy → Calls Tryz.prog f' #[.pointer (some ⟨bg, 0, none⟩), s.val] Wy fun r w3 => r = .returned (.tuple #[]) ∧ Grow w w3 ∧ w3.blk w.heap.size = stA V S.num ∧ w3.free w.heap.size = true ∧ w.heap.size < w3.heap.size ∧
        ∀ Wz, Grow w3 Wz → Calls Tryz.prog 19 #[.pointer (some ⟨b, 0, none⟩), .pointer (some ⟨bg, 0, none⟩)] Wz fun e w' => e = .returned (.bool true) ∧ Grow Wz w' := by
  intro Wx gx
  refine (D.prog Wx b own (hG.trans gx) (R.grow gx) (fun k hk => Nat.le_of_lt (ho k hk))).mono ?_
  rintro e w2 ⟨rfl, hE⟩
  obtain ⟨own2, T2⟩ := (Turn.first R).step gx hE
  have hs2 := T2.kept.size
  have hG2 : Grow w w2 := T2.kept.grow_of hG (fun k hk => Nat.le_of_lt (ho k hk))
  have hb2 : w2.blk w.heap.size = stA V S.num := by rw [T2.kept.blk _ hl (fun h => by have := ho _ h; omega)]; exact hb
  have RG2 : Gmt w2 bg og (Em.new S []) := RG.kept T2.kept (fun k h1 h2 => hd k h2 h1)
  refine ⟨rfl, by omega, fun Wy gy => ?_⟩
  refine (D.doc Wy bg og (hG2.trans gy) (RG2.grow gy) (fun k hk => Nat.le_of_lt (hg k hk))).mono ?_
  rintro e w3 ⟨rfl, hE⟩
  obtain ⟨og3, T3⟩ := (TurnG.first RG2).step gy hE
  have hs3 := T3.kept.size
  have hG3 : Grow w w3 := T3.kept.grow_of hG2 (fun k hk => Nat.le_of_lt (hg k hk))
  have hb3 : w3.blk w.heap.size = stA V S.num := by rw [T3.kept.blk _ (by omega) (fun h => by have := hg _ h; omega)]; exact hb2
  have hm3 : Emt w3 b own2 EF := T2.em.kept T3.kept (fun k h1 h2 => by
    rcases T2.own k h1 with h | h
    · exact hd k h h2
    · have := RG.lt k h2; omega)
  have hf3 : w3.free w.heap.size = true := by rw [T3.kept.free _ (by omega) (fun h => by have := hg _ h; omega), T2.kept.free _ hl (fun h => by have := ho _ h; omega)]; exact hf
  exact ⟨rfl, hG3, hb3, hf3, by omega, fun Wz gz => D.is Wz b bg own2 og3 (hm3.grow gz) (T3.em.grow gz)⟩
set_option maxRecDepth 100000 in
set_option maxHeartbeats 8000000 in
theorem declares_law (T8 : Table08) (O : Of17) (S : St) (V : SV) (w : World) (R : RepSt w V S) (GL : Glob w) (HA : ∀ W, Grow w W → Calls Tryz.prog 6 #[] W fun e w' => e = .returned (.bool true) ∧ Grow W w') (s1 : Sl) (l1 : List Int) (I1 : Ints w s1 l1) (s2 : Sl) (l2 : List Int) (I2 : Ints w s2 l2) :
    Calls Tryz.prog 4 #[.agg (stA V S.num), s1.val, s2.val] w fun e w' => e = .returned (.bool true) ∧ Grow w w' := by
  have HAl := Lib.hid HA
  have HLo := Lib.hid (fun W (g : Grow w W) => long_any S V 24 (by omega) W (R.grow g))
  have hn1 := I1.len
  have hn2 := I2.len
  cases hl : longB S 24 with
  | true =>
    rw [hl] at HLo
    clear R GL hl HA T8 O
    go_enter Tryz.func4, Tryz.ntmps4
    go_wp2_with (first | (go_at_call 6; refine (HAl.out _ grI).mono ?_; rintro e' w' ⟨rfl, nx, rfl⟩) | (go_at_call 7; refine (HLo.out _ grI).mono ?_; rintro e' w' ⟨rfl, nx, rfl⟩))
    go_ret
    exact ⟨rfl, grI⟩
  | false =>
  have hsm : SmallN S 34 := long_small 24 hl
  have hSm := hsm.small (show 34 ≤ 1048576 by omega)
  rw [hl] at HLo
  by_cases hb1 : 12 < l1.length
  · have hb1' : ((12 : Int) < (l1.length : Int)) = True := by simp; omega
    clear R GL hl HA hsm hSm T8 O
    go_enter Tryz.func4, Tryz.ntmps4
    go_wp2_with (first | (go_at_call 6; refine (HAl.out _ grI).mono ?_; rintro e' w' ⟨rfl, nx, rfl⟩) | (go_at_call 7; refine (HLo.out _ grI).mono ?_; rintro e' w' ⟨rfl, nx, rfl⟩))
    go_ret
    exact ⟨rfl, grI⟩
  by_cases hb2 : 12 < l2.length
  · have hb1' : ((12 : Int) < (l1.length : Int)) = False := by simp; omega
    have hb2' : ((12 : Int) < (l2.length : Int)) = True := by simp; omega
    clear R GL hl HA hsm hSm T8 O
    go_enter Tryz.func4, Tryz.ntmps4
    go_wp2_with (first | (go_at_call 6; refine (HAl.out _ grI).mono ?_; rintro e' w' ⟨rfl, nx, rfl⟩) | (go_at_call 7; refine (HLo.out _ grI).mono ?_; rintro e' w' ⟨rfl, nx, rfl⟩))
    go_ret
    exact ⟨rfl, grI⟩
  have hb1' : ((12 : Int) < (l1.length : Int)) = False := by simp; omega
  have hb2' : ((12 : Int) < (l2.length : Int)) = False := by simp; omega
  obtain ⟨EF, DF⟩ := fight_told T8 O S w R.objs.wid GL hSm s1 l1 I1 (by omega)
  obtain ⟨ED, DD⟩ := defend_told T8 O S w R.objs.wid GL hSm s2 l2 I2 (by omega)
  obtain ⟨mq, hM1, hM2⟩ : ∃ mq : Int → Bool, (∀ W, Grow w W → ∀ id, Calls Tryz.prog 26 #[.agg (stA V S.num), .int .i64 id] W fun e w' => e = .returned (.bool (mq id)) ∧ Grow W w') ∧ (∀ W, Grow w W → ∀ id, Calls Tryz.prog 27 #[.agg (stA V S.num), .int .i64 id] W fun e w' => e = .returned (.bool (mq id)) ∧ Grow W w') := by
    by_cases hck : checkN S = 0
    · have h : RS S V w := ⟨R, (checkN_zero S).1 hck, hSm, GL⟩
      exact ⟨mayB S, fun W g id => may_any S V W (h.grow g) id, fun W g id => may24_good T8 O S V W (h.grow g) id⟩
    · have h : WS S V w := ⟨R, hSm, GL, hck⟩
      exact ⟨fun _ => false, fun W g id => may_wrong S V W (h.grow g) id, fun W g id => may24_wrong T8 S V W (h.grow g) id⟩
  have HM1 := Lib.hid hM1
  have HM2 := Lib.hid hM2
  have HNew := Lib.hid (fun W (g : Grow w W) => new_any S V W (R.grow g) hSm (GL.grow g) .nil [] (Ints.nil W) (by simp))
  have HGNew := Lib.hid (fun W (g : Grow w W) => gnew_any S V W (R.grow g) hSm)
  have hnil : (Sl.nil).val = Value.slice none 0 0 := rfl
  rw [hnil] at HNew
  have hon := R.objs.len
  have hobs := hsm.objs
  have DF' := Lib.hid DF
  have DD' := Lib.hid DD
  clear hl HA GL hSm hsm T8 O hnil hM1 hM2 R DF DD I1 I2
  go_enter Tryz.func4, Tryz.ntmps4
  go_wp2_with (first | (go_at_call 6; refine (HAl.out _ grI).mono ?_; rintro e' w' ⟨rfl, nA, rfl⟩) | (go_at_call 7; refine (HLo.out _ grI).mono ?_; rintro e' w' ⟨rfl, nL, rfl⟩))
  go_region_held3 (fun W => W.blk w.heap.size = stA V S.num) (simp [go_sem, *]) (first | (go_at_call 15; refine (HNew.out _ (grI)).mono ?_; rintro e' w' ⟨b, own, rfl, hem, hown, nN, rfl⟩; have HEM := Lib.hid hem; have HOW := Lib.hid hown; clear hem hown) | (go_at_call 16; refine (HGNew.out _ (grI)).mono ?_; rintro e' w' ⟨bg, og, rfl, hgm, hog, nG, rfl⟩; have HGM := Lib.hid hgm; have HOG := Lib.hid hog; clear hgm hog))
  have hem := HEM.out
  (try simp only [drew_plus] at hem); (try simp only [plus_plus] at hem)
  have hgm := HGM.out
  (try simp only [drew_plus] at hgm); (try simp only [plus_plus] at hgm)
  have hown := HOW.out
  have hog := HOG.out
  simp only [drew_plus, plus_size, alloc_size', Ext.and, Ext.late, Array.size_append, show ∀ (W : World), W.drew.heap.size = W.heap.size from fun _ => rfl] at hown hog
  have hem1 : Emt ((w.alloc (.cells (stA V S.num) 29)).plus (((nA.and nL).and nN.late).and nG)) b own (Em.new S []) := hem.grow grI
  have hG0 : Grow w ((w.alloc (.cells (stA V S.num) 29)).plus (((nA.and nL).and nN.late).and nG)) := grI
  have hb0 : ((w.alloc (.cells (stA V S.num) 29)).plus (((nA.and nL).and nN.late).and nG)).blk w.heap.size = stA V S.num := by go_simp
  have hf0 : ((w.alloc (.cells (stA V S.num) 29)).plus (((nA.and nL).and nN.late).and nG)).free w.heap.size = true := by go_simp
  have hl0 : w.heap.size < ((w.alloc (.cells (stA V S.num) 29)).plus (((nA.and nL).and nN.late).and nG)).heap.size := (by first | (go_simp; done) | (go_simp; omega) | (simp only [Sl.b]; go_simp; omega))
  have hdj : ∀ k, own k → ¬ og k := fun k h1 h2 => by have := hown k h1; have := hog k h2; omega
  have ho1 : ∀ k, own k → w.heap.size < k := fun k h1 => by have := hown k h1; omega
  have hg1 : ∀ k, og k → w.heap.size < k := fun k h1 => by have := hog k h1; omega
  have HD1 := Lib.hid (decl_after DF'.out hG0 hem1 hgm ho1 hg1 hdj hl0 hb0 hf0)
  clear hem1 hG0 hb0 hf0 hl0 hdj ho1 hg1 hem hgm hown hog HEM HGM HOW HOG
  generalize (w.alloc (.cells (stA V S.num) 29)).plus (((nA.and nL).and nN.late).and nG) = W1 at *
  go_wp2_with fail
  refine (HD1.out _ grI).mono ?_
  rintro e' w2 ⟨rfl, hl2, h2⟩
  have H2 := Lib.hid h2
  clear h2
  go_wp2_with fail
  refine (H2.out _ grI).mono ?_
  rintro e' w3 ⟨rfl, hG3, hb3, hf3, hl3, h3⟩
  have H3 := Lib.hid h3
  have HG3 := Lib.hid hG3
  clear h3 hG3
  go_wp2_with (go_at_call 19; refine (H3.out _ grI).mono ?_; rintro e' w' ⟨rfl, nI, rfl⟩)
  go_region_held3 (fun W => W.blk w.heap.size = stA V S.num) (simp [go_sem, *]) (first | (go_at_call 15; refine (HNew.out _ (HG3.out.trans grI)).mono ?_; rintro e' w' ⟨b, own, rfl, hem, hown, nN, rfl⟩; have HEM := Lib.hid hem; have HOW := Lib.hid hown; clear hem hown) | (go_at_call 16; refine (HGNew.out _ (HG3.out.trans grI)).mono ?_; rintro e' w' ⟨bg, og, rfl, hgm, hog, nG, rfl⟩; have HGM := Lib.hid hgm; have HOG := Lib.hid hog; clear hgm hog))
  have hem := HEM.out
  (try simp only [drew_plus] at hem); (try simp only [plus_plus] at hem)
  have hgm := HGM.out
  (try simp only [drew_plus] at hgm); (try simp only [plus_plus] at hgm)
  have hown := HOW.out
  have hog := HOG.out
  simp only [drew_plus, plus_size, Ext.and, Ext.late, Array.size_append, show ∀ (W : World), W.drew.heap.size = W.heap.size from fun _ => rfl] at hown hog
  have hem1 : Emt (w3.plus ((nI.and nN.late).and nG)) b own (Em.new S []) := hem.grow grI
  have hG0 : Grow w (w3.plus ((nI.and nN.late).and nG)) := HG3.out.trans grI
  have hb0 : (w3.plus ((nI.and nN.late).and nG)).blk w.heap.size = stA V S.num := by go_simp
  have hf0 : (w3.plus ((nI.and nN.late).and nG)).free w.heap.size = true := by go_simp
  have hl0 : w.heap.size < (w3.plus ((nI.and nN.late).and nG)).heap.size := (by first | (go_simp; done) | (go_simp; omega) | (simp only [Sl.b]; go_simp; omega))
  have hdj : ∀ k, own k → ¬ og k := fun k h1 h2 => by have := hown k h1; have := hog k h2; omega
  have ho1 : ∀ k, own k → w.heap.size < k := fun k h1 => by have := hown k h1; omega
  have hg1 : ∀ k, og k → w.heap.size < k := fun k h1 => by have := hog k h1; omega
  have HD4 := Lib.hid (decl_after DD'.out hG0 hem1 hgm ho1 hg1 hdj hl0 hb0 hf0)
  clear hem1 hG0 hb0 hf0 hl0 hdj ho1 hg1 hem hgm hown hog HEM HGM HOW HOG
  generalize w3.plus ((nI.and nN.late).and nG) = W4 at *
  go_wp2_with fail
  refine (HD4.out _ grI).mono ?_
  rintro e' w5 ⟨rfl, hl5, h5⟩
  have H5 := Lib.hid h5
  clear h5
  go_wp2_with fail
  refine (H5.out _ grI).mono ?_
  rintro e' w6 ⟨rfl, hG6, hb6, hf6, hl6, h6⟩
  have hc6 := cell_of_blk hf6 hb6
  have H6 := Lib.hid h6
  have HG6 := Lib.hid hG6
  clear h6 hG6 hb3 hf3 hl3
  go_wp2_with (go_at_call 19; refine (H6.out _ grI).mono ?_; rintro e' w' ⟨rfl, nJ, rfl⟩)
  go_loopw [9] (fun i wr => ∃ x : Int, -1 ≤ x ∧ x ≤ S.objs.length + 1 ∧ i = .int .i64 x ∧ Grow w6 wr) (fun i _ => ((S.objs.length : Int) + 2 - intOf i).toNat)
  case atStart => exact ⟨-1, by omega, by omega, rfl, grI⟩
  case round =>
    obtain ⟨id, hi1, hi2, rfl, x, rfl⟩ := hrel
    by_cases hle : id ≤ (S.objs.length : Int)
    · have hle' : (id ≤ (S.objs.length : Int)) = True := eq_true hle
      have hw1 : wrap64 (id + 1) = id + 1 := by unfold wrap64; omega
      go_wp2_with fail
      go_region_held3 (fun W => W.blk w.heap.size = stA V S.num) (simp [go_sem, *]) (first | (go_at_call 26; refine (HM1.out _ (HG6.out.trans grI) _).mono ?_; rintro e' w' ⟨rfl, nx, rfl⟩) | (go_at_call 27; refine (HM2.out _ (HG6.out.trans grI) _).mono ?_; rintro e' w' ⟨rfl, nx, rfl⟩))
      all_goals
        go_wp2_with fail
        go_roundw
        case rel => exact ⟨id + 1, by omega, by omega, by go_num, grI⟩
        case measure => simp [intOf]; omega
    · have hle' : (id ≤ (S.objs.length : Int)) = False := eq_false hle
      go_wp2_with fail
      go_ret
      exact ⟨rfl, HG6.out.trans grI⟩
end Go.Proofs.YtnjdkkgkaafdbaaGreatDoor
