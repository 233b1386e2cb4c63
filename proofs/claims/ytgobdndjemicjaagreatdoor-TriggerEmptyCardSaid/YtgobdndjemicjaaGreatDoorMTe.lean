/-
  What settling leaves: the plain law of TriggerEmpty.
  The law TriggerEmpty, walked.
-/
import Derived.Test.YtgobdndjemicjaaGreatDoorMTrF
import Derived.Test.YtgobdndjemicjaaGreatDoorMAlive21
import Derived.Test.YtgobdndjemicjaaGreatDoorMRight
import Derived.Test.YtgobdndjemicjaaGreatDoorMRefChk
namespace Go.Proofs.YtgobdndjemicjaaGreatDoor
open Go Go.RowKit Go.Shelf

theorem setGame_pend (E : Em) (f v : Int) : (E.setGame f v).pend = E.pend := by
  unfold Em.setGame
  split
  · rfl
  · split
    · exact do1_pend _ _
    · exact set_pend _ _ _ _
theorem await_mono (E : Em) (a wh c : Int) : E.pend.length ≤ (E.await a wh c).pend.length := by
  unfold Em.await
  split
  · show E.pend.length ≤ (E.pend ++ _).length
    rw [List.length_append]; omega
  · rw [fail_pend]; exact Nat.le_refl _
theorem put3_mono (E : Em) (a b c d e : Int) : E.pend.length ≤ (E.put3 a b c d e).pend.length := by
  unfold Em.put3
  split
  · exact Nat.le_refl _
  split
  · exact await_mono _ _ _ _
  split
  · exact await_mono _ _ _ _
  · exact Nat.le_refl _
theorem put_mono (E : Em) (id base : Int) : E.pend.length ≤ (E.put id base).pend.length := by
  unfold Em.put
  split
  · exact Nat.le_refl _
  split
  · exact Nat.le_refl _
  split
  · exact Nat.le_refl _
  · simp only
    refine Nat.le_trans ?_ (put3_mono _ _ _ _ _ _)
    rw [put2_pend, do1_pend]; exact Nat.le_refl _
theorem puts_mono : ∀ (l : List Int) (E : Em), E.pend.length ≤ (E.puts l).pend.length
  | [], _ => Nat.le_refl _
  | x :: l, E => Nat.le_trans (put_mono E x 4) (puts_mono l (E.put x 4))
theorem home_nine {o : List Int} {d : Nat} (h1 : gt o 1 = 0 ∨ gt o 1 = 1) (h : homeN o 4 = d) : d ≠ 9 := by
  unfold homeN at h
  have hz : zoneN 4 (gt o 1) = 4 + gt o 1 := by unfold zoneN; rw [if_pos ⟨by omega, h1⟩]
  simp only [hz] at h
  rw [if_pos (show (0 : Int) ≤ 4 + gt o 1 by omega)] at h
  split at h <;> omega
/-- Behind Puts of what stood on the field. -/
theorem puts_nine {d : List Int} : ∀ (l : List Int) {m : Nat} {E : Em}, Rg m d E → l.Nodup → (∀ x ∈ l, x ∈ E.now.list 8) → (E.puts l).err ≠ 0 ∨ ((E.puts l).now.list 9 = E.now.list 9 ∧ (E.puts l).now.objs.length = E.now.objs.length)
  | [], _, _, _, _, _ => Or.inr ⟨rfl, rfl⟩
  | x :: l, m, E, h, hn, hm => by
    have hx := hm x (by simp)
    obtain ⟨h0, h1, h3, _⟩ := h.right.zon.ok 8 (by omega) x hx
    obtain ⟨a, rfl⟩ := Int.eq_ofNat_of_zero_le h0
    rw [Int.toNat_natCast] at h3
    have ha : a < E.now.objs.length := by omega
    have hs := h.sim.put (by omega) (a : Int) 4
    obtain ⟨z, c, dd, hz, hz11, hcl, hca, hd, hd11, P⟩ := put_good (E := E.bare) h.err h.right h.wid a ha 4 (by decide) (by show 0 + 14 ≤ 65536; omega)
    have hO := h.put (a : Int) 4
    show ((E.put a 4).puts l).err ≠ 0 ∨ (((E.put a 4).puts l).now.list 9 = E.now.list 9 ∧ ((E.put a 4).puts l).now.objs.length = E.now.objs.length)
    rcases hO with h9 | hR
    · have : ∀ (l : List Int) (E : Em), E.err ≠ 0 → (E.puts l).err ≠ 0 := by
        intro l
        induction l with
        | nil => intro E h; exact h
        | cons y l ih => intro E h; exact ih (E.put y 4) (by rw [put_err h]; exact h)
      exact Or.inl (this l _ h9)
    have hg2 : (E.put a 4).now = (E.bare.put a 4).now := by
      rcases hs.or with g | g
      · exact absurd hR.err g
      · exact g.2.1
    have hz8 : z = 8 := by
      have : gt (rowAt E.now.objs a) 3 = z := hz
      rw [h3] at this; omega
    subst hz8
    have hdn : dd ≠ 8 := fun e => by subst e; exact home_grave _ hd
    have hon := h.right.num ha (f := 1) (by decide)
    have hd9 : dd ≠ 9 := home_nine (o := rowAt E.now.objs a) (by
      have o1 : 0 ≤ gt (rowAt E.now.objs a) 1 := hon.1
      have o2 : gt (rowAt E.now.objs a) 1 ≤ 1 := hon.2
      omega) hd
    have pl : (E.put a 4).now.list = upd (upd E.now.list 8 ((E.now.list 8).eraseIdx c)) dd ((moveTo E.now 8 c dd).insertIdx (moveTo E.now 8 c dd).length (a : Int)) := by rw [hg2]; exact P.list
    have po : (E.put a 4).now.objs.length = E.now.objs.length := by rw [hg2, P.objs, List.length_set]; rfl
    have hl8 : (E.put a 4).now.list 8 = (E.now.list 8).eraseIdx c := by rw [pl, upd_ne _ _ _ _ (Ne.symm hdn), upd_same]
    have hl9 : (E.put a 4).now.list 9 = E.now.list 9 := by rw [pl, upd_ne _ _ _ _ (Ne.symm hd9), upd_ne _ _ _ _ (by omega)]
    have hnd := List.nodup_cons.1 hn
    have hca' : gt (E.now.list 8) c = a := hca
    rcases puts_nine l hR hnd.2 (fun y hy => by
      rw [hl8]
      rcases mem_eraseIdx (E.now.list 8) c y (hm y (by simp [hy])) with h | h
      · rw [hca'] at h; subst h; exact absurd hy hnd.1
      · exact h) with g | ⟨g1, g2⟩
    · exact Or.inl g
    · exact Or.inr ⟨g1.trans hl9, g2.trans po⟩
/-- Rounds leave the stack and how many objects there are, and what waits stays. -/
theorem run_nine {d : List Int} {M : Nat} : ∀ (g : Nat) (E : Em) (fuel n : Int), RunJ d M E g → (runG g E fuel n).1.err ≠ 0 ∨ ((runG g E fuel n).1.now.list 9 = E.now.list 9 ∧ (runG g E fuel n).1.now.objs.length = E.now.objs.length ∧ E.pend.length ≤ (runG g E fuel n).1.pend.length)
  | 0, E, fuel, n, h => by obtain ⟨g', hg⟩ := h.pos; cases hg
  | g + 1, E, fuel, n, h => by
    rw [runG]
    by_cases he : E.err = 0
    · rw [if_neg (by rw [he]; simp)]
      obtain ⟨hR, hp⟩ := h.ok.resolve_left (fun h => h he)
      by_cases hq : quietB E.now = true
      · rw [if_pos hq]; exact Or.inr ⟨rfl, rfl, Nat.le_refl _⟩
      · rw [if_neg hq]
        by_cases hf : fuel ≤ n
        · rw [if_pos hf]
          rcases setGame6 hR (not_quiet hq).1 3 (by omega) (by omega) with h1 | ⟨_, h2, h3⟩
          · exact Or.inl h1
          · refine Or.inr ⟨?_, ?_, ?_⟩
            · show (E.setGame 6 3).now.list 9 = _; rw [h2]; rfl
            · show (E.setGame 6 3).now.objs.length = _; rw [h2]; rfl
            · show _ ≤ (E.setGame 6 3).pend.length; rw [h3]; exact Nat.le_refl _
        · rw [if_neg hf]
          have key : E.round.err ≠ 0 ∨ (E.round.now.list 9 = E.now.list 9 ∧ E.round.now.objs.length = E.now.objs.length ∧ E.pend.length ≤ E.round.pend.length) := by
            unfold Em.round
            by_cases hr : resultN E.now = 0
            · rw [if_neg (by rw [hr]; simp)]
              rcases puts_nine (dyingN E.now) hR (dying_nodup hR.right) (dying_sub _) with g | ⟨g1, g2⟩
              · exact Or.inl g
              · exact Or.inr ⟨g1, g2, puts_mono _ _⟩
            · rw [if_pos hr]
              have hin := result_in E.now
              rcases setGame6 hR (not_quiet hq).1 (resultN E.now) (by omega) hin.2 with h1 | ⟨_, h2, h3⟩
              · exact Or.inl h1
              · exact Or.inr ⟨by rw [h2]; rfl, by rw [h2]; rfl, by rw [h3]; exact Nat.le_refl _⟩
          have hJ := h.round he hq
          rcases key with k | ⟨k1, k2, k3⟩
          · refine Or.inl ?_
            obtain ⟨g', rfl⟩ := hJ.pos
            rw [runG, if_pos k]; exact k
          · rcases run_nine g _ fuel (n + 1) hJ with r | ⟨r1, r2, r3⟩
            · exact Or.inl r
            · exact Or.inr ⟨r1.trans k1, r2.trans k2, Nat.le_trans k3 r3⟩
    · rw [if_pos he]; exact Or.inl he
/-- What TriggerEmpty asks of an emitter behind settling. -/
theorem settle_law {m : Nat} {d : List Int} {E : Em} (h : Og m d E) (hs : E.settle.err = 0) :
    E.err = 0 ∧ E.settle.pend = [] ∧ Right E.settle.now ∧ (E.settle.now.num 24 ≠ 0 ∨ (E.now.list 9).length + E.pend.length ≤ (E.settle.now.list 9).length ∧ (E.settle.now.list 9).length + E.now.objs.length = E.settle.now.objs.length + (E.now.list 9).length) := by
  have hO := h.settle
  have hR := hO.err hs
  have hran : E.ran.err = 0 := by
    by_cases e : E.ran.err = 0
    · exact e
    · exfalso
      unfold Em.settle at hs
      split at hs
      · exact e hs
      · unfold Em.flush at hs
        rw [abils_err (show E.ran.taken.err ≠ 0 from e)] at hs
        exact e hs
  have hE : E.err = 0 := by
    by_cases e : E.err = 0
    · exact e
    · exfalso
      unfold Em.ran at hran
      have hg : E.gas = 1 := by unfold Em.gas; rw [if_pos e]
      rw [hg, runG, if_pos e] at hran
      exact e hran
  refine ⟨hE, ?_, hR.right, ?_⟩
  · have := hR.pend
    exact List.eq_nil_of_length_eq_zero (by omega)
  · by_cases h24 : E.ran.state.num 24 = 0
    · right
      have e1 : E.settle = E.ran.flush := by unfold Em.settle; rw [if_neg (by rw [h24]; simp)]
      have hRr := h.ran.err hran
      have hTk := h.ran.taken.err hran
      have e2 : E.ran.flush = E.ran.taken.abils (stbS (ltP (E.ran.now.num 19)) E.ran.pend) := by unfold Em.flush; rw [if_neg (by rw [hran]; simp)]
      rw [e1, e2] at hs
      rw [e1, e2]
      rcases hTk.abils (stbS (ltP (E.ran.now.num 19)) E.ran.pend) with g | A
      · exact absurd hs g
      · have hm := A.many
        have hst := A.stack
        rw [stbS_len] at hm hst
        rcases run_nine E.gas E (E.state.objs.length + 1) 0 h.runJ with r | ⟨r1, r2, r3⟩
        · exact absurd hran r
        · have r1' : E.ran.now.list 9 = E.now.list 9 := r1
          have r2' : E.ran.now.objs.length = E.now.objs.length := r2
          have r3' : E.pend.length ≤ E.ran.pend.length := r3
          have t1 : E.ran.taken.now.objs.length = E.ran.now.objs.length := rfl
          have t2 : (E.ran.taken.now.list 9).length = (E.ran.now.list 9).length := rfl
          rw [r1'] at t2
          omega
    · left
      have e1 : E.settle = E.ran.taken := by unfold Em.settle; rw [if_pos h24]
      rw [e1]
      have : E.ran.state = E.ran.now := by unfold Em.state; rw [if_neg (by rw [hran]; simp)]
      rw [this] at h24
      exact h24
end Go.Proofs.YtgobdndjemicjaaGreatDoor
namespace Go.Proofs.YtgobdndjemicjaaGreatDoor
open Go Go.RowKit Go.Shelf

/-- A state or acts longer than is looked at. -/
def long21B (S : St) (na : Nat) : Bool := longB S 30 || decide (12 < na)
theorem long21_any (S : St) (V : SV) (w : World) (R : RepSt w V S) (sa : Sl) (ha : sa.n ≤ 9223372036854775807) :
    Calls Tryz.prog 27 #[.agg (stA V S.num), sa.val] w fun e w' => e = .returned (.bool (long21B S sa.n)) ∧ Grow w w' := by
  have HL := Lib.hid (fun W (g : Grow w W) => long_any S V 30 (by omega) W (R.grow g))
  unfold long21B
  generalize longB S 30 = l at *
  clear R
  cases l with
  | true =>
    go_enter Tryz.func27, Tryz.ntmps27
    go_wp2_with (go_at_call 9; refine (HL.out _ grI).mono ?_; rintro e' w' ⟨rfl, nx, rfl⟩)
    go_ret
    exact ⟨rfl, grI⟩
  | false =>
    by_cases h1 : 12 < sa.n
    · have h1' : (12 : Int) < (sa.n : Int) := by omega
      simp only [h1, decide_true, Bool.false_or]
      go_enter Tryz.func27, Tryz.ntmps27
      go_wp2_with (go_at_call 9; refine (HL.out _ grI).mono ?_; rintro e' w' ⟨rfl, nx, rfl⟩)
      go_ret
      exact ⟨rfl, grI⟩
    · have h1' : ((12 : Int) < (sa.n : Int)) = False := by simp; omega
      simp only [h1, decide_false, Bool.false_or]
      go_enter Tryz.func27, Tryz.ntmps27
      go_wp2_with (go_at_call 9; refine (HL.out _ grI).mono ?_; rintro e' w' ⟨rfl, nx, rfl⟩)
      go_ret
      exact ⟨rfl, grI⟩
theorem opend_any (w : World) (b : Nat) (own : Nat → Prop) (E : Em) (R : Emt w b own E) (H : Mo E) :
    Calls Tryz.prog 21 #[.pointer (some ⟨b, 0, none⟩)] w fun e w' => ∃ s : Sl, e = .returned s.val ∧ Rows' w' s 3 (if E.err ≠ 0 then [] else E.pend) ∧ Grow w w' := by
  by_cases he : E.err = 0
  · exact epending_any w b own E R (by have := (H.get he).ok.pend; omega)
  · rw [if_pos he]
    refine (epend_bad w _ E.err he (errsAt_em R)).mono ?_
    rintro _ w' ⟨rfl, g⟩
    exact ⟨.nil, rfl, Rows'.nil _ _, g⟩
theorem Out.og {L n m : Nat} {d : List Int} {E : Em} (h : Out L n m d E) (hn : n ≤ 65536) : Og m d E :=
  h.imp id (fun g => ⟨g.err, g.right, g.wid, Nat.le_trans g.evs hn, g.pend, g.draws⟩)
set_option maxRecDepth 100000 in
set_option maxHeartbeats 8000000 in
theorem empty_law (S : St) (V : SV) (w : World) (R : RepSt w V S) (GL : GlobE w (fun k => w.heap.size ≤ k)) (HA : ∀ W, Grow w W → Calls Tryz.prog 8 #[] W fun e w' => e = .returned (.bool true) ∧ Grow W w')
    (sa : Sl) (acts : List (List Int)) (RA : Rows' w sa 4 acts ∧ ∀ i j, i < acts.length → j < 4 → gt (rowAt acts i) j ≤ 9223372036854775807) (hsa : sa.n ≤ 9223372036854775807) :
    Calls Tryz.prog 6 #[.agg (stA V S.num), sa.val] w fun e w' => e = .returned (.bool true) ∧ Grow w w' := by
  obtain ⟨RA, hin⟩ := RA
  have HAl := Lib.hid HA
  have HLo := Lib.hid (fun W (g : Grow w W) => long21_any S V W (R.grow g) sa hsa)
  cases hl : long21B S sa.n with
  | true =>
    rw [hl] at HLo
    clear R GL hl HA RA hsa hin
    go_enter Tryz.func6, Tryz.ntmps6
    go_wp2_with (first | (go_at_call 8; refine (HAl.out _ grI).mono ?_; rintro e' w' ⟨rfl, nx, rfl⟩) | (go_at_call 27; refine (HLo.out _ grI).mono ?_; rintro e' w' ⟨rfl, nx, rfl⟩))
    go_ret
    exact ⟨rfl, grI⟩
  | false =>
  have hl2 := hl
  unfold long21B at hl2
  simp only [Bool.or_eq_false_iff, decide_eq_false_iff_not] at hl2
  have hsm := long_small 30 hl2.1
  have hSm := hsm.small (show 40 ≤ 1048576 by omega)
  have ha20 : sa.n ≤ 12 := by omega
  rw [hl] at HLo
  have HCk := Lib.hid (fun W (g : Grow w W) => refCheck_any S V W (R.grow g) hSm)
  cases hck : (checkN S == 0) with
  | false =>
    have hckb : (checkN S != 0) = true := by simpa using hck
    have hckn : ¬ checkN S = 0 := by simpa using hck
    generalize checkN S = n at *
    clear R GL hl HA RA hsa hin hck hl2 hsm hSm
    go_enter Tryz.func6, Tryz.ntmps6
    go_wp2_with (first | (go_at_call 8; refine (HAl.out _ grI).mono ?_; rintro e' w' ⟨rfl, nx, rfl⟩) | (go_at_call 27; refine (HLo.out _ grI).mono ?_; rintro e' w' ⟨rfl, nx, rfl⟩) | (go_at_call 14; refine (HCk.out _ grI).mono ?_; rintro e' w' ⟨rfl, nx, rfl⟩))
    go_ret
    exact ⟨rfl, grI⟩
  | true =>
  have hc0 : checkN S = 0 := by simpa using hck
  have HNew := Lib.hid (fun W (g : Grow w W) => by have := new_any S V W (R.grow g) hSm (GL.base.grow g) .nil [] (Ints.nil W) (by simp); rw [show Sl.nil.val = Value.slice none 0 0 from rfl] at this; exact this)
  have HOut := Lib.hid (new_out hc0 (fun i hi => R.objs.wid i hi) [])
  have hN := RA.len
  have HRA := Lib.hid RA
  have HIN := Lib.hid hin
  have HGL := Lib.hid GL
  rw [hc0] at HCk
  clear hl hl2 HA R GL hSm hsm RA hsa hin hck hc0
  generalize Em.new S [] = E0 at *
  go_enter Tryz.func6, Tryz.ntmps6
  go_wp2_with (first | (go_at_call 8; refine (HAl.out _ grI).mono ?_; rintro e' w' ⟨rfl, m1, rfl⟩) | (go_at_call 27; refine (HLo.out _ grI).mono ?_; rintro e' w' ⟨rfl, m2, rfl⟩) | (go_at_call 14; refine (HCk.out _ grI).mono ?_; rintro e' w' ⟨rfl, m3, rfl⟩) | (go_at_call 15; refine (HNew.out _ grI).mono ?_; rintro e' w1 ⟨b, own, rfl, hem, hown, nN, rfl⟩; have HEM := Lib.hid hem; have HOW := Lib.hid hown; clear hem hown))
  have hem := HEM.out
  have how := HOW.out
  (try simp only [drew_plus] at hem); (try simp only [plus_plus] at hem)
  have hownw : ∀ k, own k → w.heap.size < k := fun k hk => by
    have h1 := (how k hk).1
    simp only [plus_size, alloc_size'] at h1
    omega
  have hgW : Grow w ((w.alloc (.cells (stA V S.num) 29)).plus (((m1.and m2).and m3).and nN)) := grI
  clear HEM HOW how HNew HAl HLo HCk
  generalize (w.alloc (.cells (stA V S.num) 29)).plus (((m1.and m2).and m3).and nN) = W1 at *
  have HGW := Lib.hid hgW
  have HEM := Lib.hid hem
  have HOW := Lib.hid hownw
  have HGLW := Lib.hid (HGL.out.kept (own' := own) (hgW.kept _) (fun k hk => Or.inl (Nat.le_of_lt (hownw k hk))))
  clear hem hownw hgW
  go_loopw [26] (fun i wr => ∃ (k : Nat) (ownk : Nat → Prop) (Ek : Em), k ≤ acts.length ∧ i = .int .i64 k ∧ Turn W1 b own Ek wr ownk ∧ Out S.objs.length (1000 * k) (2 * k) [] Ek) (fun i _ => acts.length - (intOf i).toNat)
  case atStart => exact ⟨0, own, E0, by omega, rfl, Turn.first HEM.out, HOut.out⟩
  case round =>
    obtain ⟨k, ownk, Ek, hk, rfl, hTu, hO⟩ := hrel
    by_cases hlt : k < acts.length
    · have hgr := (hTu.kept.grow_of HGW.out (fun k hk => Nat.le_of_lt (HOW.out k hk)))
      obtain ⟨qb, qw, qsz, qsub, _⟩ := (HRA.out.grow hgr).at (by omega) k hlt
      obtain ⟨a0, a1, a2, a3, hrow⟩ := row4r qw
      have hi1 : a1 ≤ 9223372036854775807 := by have := HIN.out k 1 hlt (by omega); rw [hrow] at this; exact this
      rw [hrow] at qsub qw
      have hg0 : gt [a0, a1, a2, a3] 0 = a0 := rfl
      have HGR := Lib.hid hgr
      have HTu := Lib.hid hTu
      have HO := Lib.hid hO
      clear hrow hgr
      by_cases h3 : 3 ≤ a0
      · by_cases he : Ek.err = 0
        · have hG : Gd S.objs.length (1000 * k) (2 * k) [] Ek := hO.resolve_left (fun h => h he)
          have HDo := Lib.hid (fun W (g : Grow wr W) => do19_any W b ownk Ek (HTu.out.em.grow g) (hG.rdy (by omega) (by omega) (by simp) ((HTu.out.glob HGLW.out).grow g)) a0 a1 a2 a3 hi1)
          have HAct := Lib.hid (hG.act (by omega) a0 a1 a2 a3 h3)
          clear hTu hO hG he
          generalize Ek.act a0 a1 a2 a3 = E5 at *
          go_wp2_with fail
          refine (HDo.out _ grI).mono ?_
          rintro e' w5 ⟨⟨v, rfl⟩, hE⟩
          obtain ⟨own5, T5⟩ := HTu.out.step grI hE
          have HT5 := Lib.hid T5
          clear hE T5 HDo
          go_wp2_with fail
          go_roundw
          case rel => exact ⟨k + 1, own5, E5, by omega, by go_num, HT5.out, HAct.out.mono (by omega) (by omega)⟩
          case measure => simp [intOf]; omega
        · have HDo := Lib.hid (fun W (g : Grow wr W) => do19_err W b ownk Ek (HTu.out.em.grow g) he a0 a1 a2 a3)
          have HH5 : Hid ((Ek.actBad a0).err ≠ 0) := by rw [Hid, actBad_errR]; exact he
          clear hTu hO he
          generalize Ek.actBad a0 = E5 at *
          go_wp2_with fail
          refine (HDo.out _ grI).mono ?_
          rintro e' w5 ⟨rfl, hE⟩
          obtain ⟨own5, T5⟩ := HTu.out.step grI hE
          have HT5 := Lib.hid T5
          clear hE T5 HDo
          go_wp2_with fail
          go_roundw
          case rel => exact ⟨k + 1, own5, E5, by omega, by go_num, HT5.out, Or.inl HH5.out⟩
          case measure => simp [intOf]; omega
      · have h3' : (3 ≤ a0) = False := by simp; omega
        clear hTu hO
        go_wp2_with fail
        go_roundw
        case rel => exact ⟨k + 1, ownk, Ek, by omega, by go_num, HTu.out.grow grI, HO.out.mono (by omega) (by omega)⟩
        case measure => simp [intOf]; omega
    · have hog : Og 24 [] Ek := (hO.og (by omega)).mono (by omega)
      have hMo := hog.mo (by omega) (by simp)
      have HPe := Lib.hid (fun W (g : Grow wr W) => opend_any W b ownk Ek (hTu.em.grow g) hMo)
      have HSt := Lib.hid (fun W (g : Grow wr W) => ostate_any W b ownk Ek (hTu.em.grow g) hMo)
      have HTu := Lib.hid hTu
      have HOG := Lib.hid hog
      have HSe := Lib.hid (fun W (g : Grow wr W) => settle_any W b ownk Ek (hTu.em.grow g) hog (by omega) (by simp) ((hTu.glob HGLW.out).grow g))
      have hlk := hTu.em.lt
      have HLK := Lib.hid hlk
      clear hTu hO hMo hog hlk
      generalize hP : (if Ek.err ≠ 0 then ([] : List (List Int)) else Ek.pend) = P at *
      generalize hS9 : Ek.state = S9 at *
      have HPP := Lib.hid hP
      have HSS := Lib.hid hS9
      clear hP hS9
      go_wp2_with (first | (go_at_call 21; refine (HPe.out _ grI).mono ?_; rintro e' w' ⟨sP, rfl, hPr, nP, rfl⟩; have hPn := hPr.len; clear hPr) | (go_at_call 18; refine (HSt.out _ grI).mono ?_; rintro e' w' ⟨V1, rfl, hR', _, nS, rfl⟩; have hV9 := (hR'.list 9 (by omega)).len; have hVo := hR'.objs.len; clear hR'))
      have hb9 : ((wr.plus (nP.and nS)).alloc (.cells (stA V1 S9.num) 29)).blk (wr.heap.size + (nP.and nS).objs.size) = stA V1 S9.num := by go_simp
      have hf9 : ((wr.plus (nP.and nS)).alloc (.cells (stA V1 S9.num) 29)).free (wr.heap.size + (nP.and nS).objs.size) = true := by go_simp
      have hl9 : wr.heap.size + (nP.and nS).objs.size < ((wr.plus (nP.and nS)).alloc (.cells (stA V1 S9.num) 29)).heap.size := by simp only [plus_size, alloc_size']; omega
      have ho9 : ¬ ownk (wr.heap.size + (nP.and nS).objs.size) := fun h => by have := HLK.out _ h; omega
      generalize wr.heap.size + (nP.and nS).objs.size = q9 at *
      refine (HSe.out _ grI).mono ?_
      rintro e' w5 ⟨rfl, hE⟩
      have hK : Kept ownk ((wr.plus (nP.and nS)).alloc (.cells (stA V1 S9.num) 29)) w5 := by obtain ⟨_, _, h, _⟩ := hE; exact h
      obtain ⟨own5, T5⟩ := HTu.out.step grI hE
      have hb5 : w5.blk q9 = stA V1 S9.num := by rw [hK.blk _ hl9 ho9]; exact hb9
      have hf5 : w5.free q9 = true := by rw [hK.free _ hl9 ho9]; exact hf9
      have hz5 : q9 < w5.heap.size := Nat.lt_of_lt_of_le hl9 hK.size
      have hcc5 := cell_of_blk hf5 hb5
      have hne5 : ¬ q9 = w5.heap.size := by omega
      have hO5 := HOG.out.settle
      have hM5 := hO5.mo (by omega) (by simp)
      have HG6 := Lib.hid (T5.kept.grow_of HGW.out (fun k hk => Nat.le_of_lt (HOW.out k hk)))
      have HLaw := Lib.hid (fun h => settle_law HOG.out h)
      have HPe5 := Lib.hid (fun W (g : Grow w5 W) => opend_any W b own5 _ (T5.em.grow g) hM5)
      have HSt5 := Lib.hid (fun W (g : Grow w5 W) => ostate_any W b own5 _ (T5.em.grow g) hM5)
      have HEr5 := Lib.hid (fun W (g : Grow w5 W) => err_any W b own5 _ (T5.em.grow g))
      generalize Ek.settle = E2 at *
      clear hE T5 HSe HPe HSt hb9 hf9 hl9 ho9 hK hb5 hf5 HTu HLK HOG
      by_cases h5 : E2.err = 0
      · obtain ⟨k1, k2, k3, k4⟩ := HLaw.out h5
        have hst5 : E2.state = E2.now := by unfold Em.state; rw [if_neg (by rw [h5]; simp)]
        have hP9 : P = Ek.pend := by rw [← HPP.out, if_neg (by rw [k1]; simp)]
        have hS9 : S9 = Ek.now := by rw [← HSS.out]; unfold Em.state; rw [if_neg (by rw [k1]; simp)]
        rw [← hS9, ← hP9] at k4
        rw [if_neg (show ¬ E2.err ≠ 0 by rw [h5]; simp), k2] at HPe5
        rw [hst5] at HSt5
        rw [h5, errV_0] at HEr5
        have hsm5 := k3.smallN.small (show 400 ≤ 1048576 by omega)
        have hc5 := (checkN_zero E2.now).2 k3
        have HCk5 := Lib.hid (fun (W : World) (V' : SV) (R' : RepSt W V' E2.now) => by have := refCheck_any E2.now V' W R' hsm5; rw [hc5] at this; exact this)
        have hn9 := k3.smallN.list 9 (by omega)
        have hn0 := k3.many
        clear hP9 hS9 k1 k2 k3 hst5 HPP HSS hO5 hM5 HLaw h5 hc5 hsm5
        generalize E2.now = T at *
        by_cases h24 : T.num 24 = 0
        · have k5 := k4.resolve_left (fun h => h h24)
          obtain ⟨k6, k7⟩ := k5
          have c1 : (P.length : Int) ≤ ((T.list 9).length : Int) - ((S9.list 9).length : Int) := by omega
          have c2 : (((T.list 9).length : Int) - ((S9.list 9).length : Int) == (T.objs.length : Int) - (S9.objs.length : Int)) = true := by simp; omega
          have c2' : ((T.list 9).length : Int) - ((S9.list 9).length : Int) = (T.objs.length : Int) - (S9.objs.length : Int) := by omega
          have c3 : (T.num 24 != 0) = false := by simpa using h24
          clear k4 k6 k7
          go_wp2_with (first | (go_at_call 17; refine (HEr5.out _ grI).mono ?_; rintro e' w' ⟨rfl, nx, rfl⟩) | (go_at_call 18; refine (HSt5.out _ grI).mono ?_; rintro e' w' ⟨V2, rfl, hR2, _, nT, rfl⟩; (try simp only [drew_plus] at hR2); (try simp only [plus_plus] at hR2); have hU9 := (hR2.list 9 (by omega)).len; have hUo := hR2.objs.len; have HR2 := Lib.hid hR2; clear hR2) | (go_at_call 21; refine (HPe5.out _ grI).mono ?_; rintro e' w' ⟨sQ, rfl, hQr, nQ, rfl⟩; have hQn : sQ.n = 0 := hQr.len; clear hQr) | (go_at_call 14; refine (HCk5.out _ V2 (HR2.out.grow grI)).mono ?_; rintro e' w' ⟨rfl, nC, rfl⟩))
          go_ret
          exact ⟨rfl, HG6.out.trans grI⟩
        · have c3 : (T.num 24 != 0) = true := by simpa using h24
          clear k4
          go_wp2_with (first | (go_at_call 17; refine (HEr5.out _ grI).mono ?_; rintro e' w' ⟨rfl, nx, rfl⟩) | (go_at_call 18; refine (HSt5.out _ grI).mono ?_; rintro e' w' ⟨V2, rfl, hR2, _, nT, rfl⟩; (try simp only [drew_plus] at hR2); (try simp only [plus_plus] at hR2); have hU9 := (hR2.list 9 (by omega)).len; have hUo := hR2.objs.len; have HR2 := Lib.hid hR2; clear hR2) | (go_at_call 21; refine (HPe5.out _ grI).mono ?_; rintro e' w' ⟨sQ, rfl, hQr, nQ, rfl⟩; have hQn : sQ.n = 0 := hQr.len; clear hQr) | (go_at_call 14; refine (HCk5.out _ V2 (HR2.out.grow grI)).mono ?_; rintro e' w' ⟨rfl, nC, rfl⟩))
          go_ret
          exact ⟨rfl, HG6.out.trans grI⟩
      · rw [if_pos h5] at HPe5
        rw [errV_is h5] at HEr5
        clear HLaw h5 hO5 hM5 HSt5
        go_wp2_with (first | (go_at_call 17; refine (HEr5.out _ grI).mono ?_; rintro e' w' ⟨rfl, nx, rfl⟩) | (go_at_call 21; refine (HPe5.out _ grI).mono ?_; rintro e' w' ⟨sQ, rfl, hQr, nQ, rfl⟩; have hQn : sQ.n = 0 := hQr.len; clear hQr))
        go_ret
        exact ⟨rfl, HG6.out.trans grI⟩
end Go.Proofs.YtgobdndjemicjaaGreatDoor
