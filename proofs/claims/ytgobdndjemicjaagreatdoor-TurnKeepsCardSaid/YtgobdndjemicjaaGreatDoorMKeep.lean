/-
  The walks of state's Cards, stack's Pool and turn's Name.
  What a new emitter of a right state is, and what it tells that is pending.
  The fixed fact of turn's laws.
  The law TurnKeeps, walked.
-/
import Derived.Test.YtgobdndjemicjaaGreatDoorMNx
import Derived.Test.YtgobdndjemicjaaGreatDoorMOc
import Derived.Test.YtgobdndjemicjaaGreatDoorMIs19
import Derived.Test.YtgobdndjemicjaaGreatDoorMEmNew
import Derived.Test.YtgobdndjemicjaaGreatDoorMRefChk
import Derived.Test.YtgobdndjemicjaaGreatDoorMEq
namespace Go.Proofs.YtgobdndjemicjaaGreatDoor
open Go Go.RowKit Go.Shelf

def secondB : ByteArray := ⟨#[115, 101, 99, 111, 110, 100]⟩
set_option maxRecDepth 100000 in
set_option maxHeartbeats 2000000 in
theorem name_any (w : World) (h : w.cell? ⟨1, 5, none⟩ = some (.string secondB)) :
    Calls Tryz.prog 41 #[.int .i64 5] w fun e w' => e = .returned (.string secondB) ∧ Grow w w' := by
  have hb := (cell_blk h).1
  go_enter Tryz.func41, Tryz.ntmps41
  go_wp2_with fail
  go_ret
  exact ⟨rfl, grI⟩
def cardsTo (S : St) (k : Nat) : Nat := (S.objs.take k).countP fun r => gt r 13 == 0
theorem cardsTo_succ (S : St) (k : Nat) (h : k < S.objs.length) : cardsTo S (k + 1) = cardsTo S k + if (gt (rowAt S.objs k) 13 == 0) = true then 1 else 0 := by
  unfold cardsTo
  rw [List.take_succ_eq_append_getElem h, List.countP_append]
  have : rowAt S.objs k = S.objs[k] := by simp [rowAt, h]
  rw [this]
  simp [List.countP_cons]
set_option maxRecDepth 100000 in
set_option maxHeartbeats 2000000 in
theorem scards_any (S : St) (V : SV) (w : World) (R : RepSt w V S) (hS : S.objs.length ≤ 1048576) :
    Calls Tryz.prog 19 #[.agg (stA V S.num)] w fun e w' => e = .returned (.int .i64 (cardsN S : Int)) ∧ Grow w w' := by
  have hN := R.objs.len
  have hfin : cardsTo S S.objs.length = cardsN S := by unfold cardsTo; rw [List.take_length]; rfl
  have HF := Lib.hid hfin
  have HR := Lib.hid R
  clear R hfin
  go_enter Tryz.func19, Tryz.ntmps19
  go_wp2_with fail
  go_loopw [3, 9] (fun v i wr => ∃ (k c : Nat), k ≤ S.objs.length ∧ c ≤ k ∧ Hid (cardsTo S k = c) ∧ i = .int .i64 k ∧ v = .int .i64 c ∧ Grow (w.alloc (.cells (stA V S.num) 29)) wr) (fun _ i _ => S.objs.length - (intOf i).toNat)
  case atStart => exact ⟨0, 0, by omega, by omega, rfl, rfl, rfl, grI⟩
  case round =>
    obtain ⟨k, c, hk, hc, HC, rfl, rfl, hG⟩ := hrel
    obtain ⟨x, rfl⟩ := hG
    by_cases hlt : k < S.objs.length
    · obtain ⟨hob, how, hosz, hosub, _⟩ := (HR.out.objs).at (by omega) k hlt
      have HSc := Lib.hid (cardsTo_succ S k hlt)
      generalize rowAt S.objs k = row at *
      by_cases h0 : (gt row 13 == 0) = true
      · rw [if_pos h0] at HSc
        go_wp2_with fail
        go_roundw
        case rel => exact ⟨k + 1, c + 1, by omega, by omega, by rw [Hid, HSc.out, HC.out], by go_num, by go_num, grI⟩
        case measure => simp [intOf]; omega
      · rw [if_neg h0] at HSc
        have h0' : (gt row 13 == 0) = false := by simpa using h0
        clear h0
        go_wp2_with fail
        go_roundw
        case rel => exact ⟨k + 1, c, by omega, by omega, by rw [Hid, HSc.out, HC.out, Nat.add_zero], by go_num, rfl, grI⟩
        case measure => simp [intOf]; omega
    · have hke : k = S.objs.length := by omega
      subst hke
      go_wp2_with fail
      go_ret
      exact ⟨by rw [← HF.out, HC.out]; rfl, grI⟩
theorem wpList_copy {P : Program} {w : World} {ops : Array Oper} {rest : List Oper} {o : Oper} {a : Act} {Q : Exit → Act → World → Prop} (hgd : o.guard = none) (d x : Operand) (t e : TypeId) (ho : o.op = .call { callee := .builtin .copy, args := #[d, x], argTypes := #[t, t] })
    (hu : P.underlying t = some (.slice e)) (hs : (P.info? e).map (·.size) = some 1) (g dLen dCap : Nat) (ad : Addr) (sLen sCap : Nat) (cur : Array Value) (ct : TypeId) (cs : List Value) (hd : a.eval d = .slice (some ⟨g, 0, none⟩) dLen dCap) (hx : a.eval x = .slice (some ad) sLen sCap)
    (hg : w.heap[g]? = some (.cells cur ct (0, 0))) (hn : cs.length = Nat.min sLen dLen) (hsrc : ∀ j v, cs[j]? = some v → w.cell? (ad.add j) = some v) (hfit : cs.length = cur.size) (h1 : ∀ v ∈ cs, v.oneCell' = true)
    (h : wpList P ops Q rest (a.put o.dst (goInt cs.length)) (w.setRow g cs.toArray)) : wpList P ops Q (o :: rest) a w := by
  refine wpList_plain hgd fun K hK => ?_
  have hr := run_copy_row (P := P) w t t o.type e g 0 dLen dCap ad sLen sCap cur ct cs hu hs hg hn hsrc (by omega) h1
  have e2 : (cur.toList.take 0 ++ cs ++ cur.toList.drop (0 + cs.length)).toArray = cs.toArray := by
    rw [List.take_zero, List.nil_append, Nat.zero_add, hfit, List.drop_of_length_le (by simp), List.append_nil]
  rw [e2] at hr
  unfold Oper.wp execOp
  simp only [ho, resolve, invoke, builtin, Sem.run_bind, Sem.run_pure, Result.andThen_ok, List.map_toArray, List.map_cons, List.map_nil, hd, hx, hr]
  exact hK _ _ h
def poolL (num : Nat → Int) (p : Nat) : List Int := [num (p * 9 + 1), num (p * 9 + 2), num (p * 9 + 3), num (p * 9 + 4), num (p * 9 + 5), num (p * 9 + 6)]
set_option maxRecDepth 100000 in
set_option maxHeartbeats 2000000 in
theorem pool_any (num : Nat → Int) (V : SV) (w : World) (p : Nat) (hp : p = 0 ∨ p = 1) :
    Calls Tryz.prog 20 #[.agg (stA V num), .int .i64 (p : Int)] w fun e w' => e = .returned (.agg (cellsOf (poolL num p))) ∧ Grow w w' := by
  rcases hp with rfl | rfl
  all_goals
    go_enter Tryz.func20, Tryz.ntmps20
    go_wp2_with fail
    refine wp_region_order [0, 1, 2, 3, 4] 5 [] (by kernel_rfl) (by kernel_rfl) ?_; simp only [pickO, List.getElem?_cons_zero, List.getElem?_cons_succ]; (repeat (go_big_quiet_step ( fail ))); refine wpQuiet_nil ?_; rintro _ ⟨nx, rfl⟩
  · refine wpList_copy rfl _ _ 23 3 rfl Tryz.underlying23 (by kernel_rfl) (w.heap.size + 1 + 1) 6 6 ⟨w.heap.size, 13, none⟩ 8 8 (cellsOf [0, 0, 0, 0, 0, 0]) 33 ((poolL num 0).map I) rfl rfl ?_ rfl (fun j v hj => ?_) rfl (by simp [poolL, Value.oneCell', I]) ?_
    · rw [plus_heap _ _ _ (by simp only [alloc_size']; omega)]
      have := heap_alloc_new ((w.alloc (.cells (stA V num) 29)).alloc (.cells (cellsOf [0, 0, 0, 0, 0, 0]) 33)) (.cells (cellsOf [0, 0, 0, 0, 0, 0]) 33)
      simpa only [alloc_size'] using this
    · have hj6 : j < 6 := by have := (List.getElem?_eq_some_iff.1 hj).1; simpa [poolL] using this
      have e : j = 0 ∨ j = 1 ∨ j = 2 ∨ j = 3 ∨ j = 4 ∨ j = 5 := by omega
      rcases e with rfl | rfl | rfl | rfl | rfl | rfl <;> (rw [Addr.add_lit]; go_simp; exact Option.some.inj hj)
    · have e6 : ((poolL num 0).map I).toArray = cellsOf (poolL num 0) := rfl
      rw [e6]
      have hsz : (cellsOf (poolL num 0)).size = 6 := rfl
      generalize hL : poolL num 0 = L at *
      have HL := Lib.hid hL
      clear e6 hL
      go_wp2_with fail
      refine bodyPost_ret (results_Cost rfl _ _ _ rfl ?_) rfl ?_
      · go_simp
      · refine ⟨?_, grI⟩
        rw [HL.out]
        go_simp
  · refine wpList_copy rfl _ _ 23 3 rfl Tryz.underlying23 (by kernel_rfl) (w.heap.size + 1 + 1) 6 6 ⟨w.heap.size, 22, none⟩ 8 8 (cellsOf [0, 0, 0, 0, 0, 0]) 33 ((poolL num 1).map I) rfl rfl ?_ rfl (fun j v hj => ?_) rfl (by simp [poolL, Value.oneCell', I]) ?_
    · rw [plus_heap _ _ _ (by simp only [alloc_size']; omega)]
      have := heap_alloc_new ((w.alloc (.cells (stA V num) 29)).alloc (.cells (cellsOf [0, 0, 0, 0, 0, 0]) 33)) (.cells (cellsOf [0, 0, 0, 0, 0, 0]) 33)
      simpa only [alloc_size'] using this
    · have hj6 : j < 6 := by have := (List.getElem?_eq_some_iff.1 hj).1; simpa [poolL] using this
      have e : j = 0 ∨ j = 1 ∨ j = 2 ∨ j = 3 ∨ j = 4 ∨ j = 5 := by omega
      rcases e with rfl | rfl | rfl | rfl | rfl | rfl <;> (rw [Addr.add_lit]; go_simp; exact Option.some.inj hj)
    · have e6 : ((poolL num 1).map I).toArray = cellsOf (poolL num 1) := rfl
      rw [e6]
      have hsz : (cellsOf (poolL num 1)).size = 6 := rfl
      generalize hL : poolL num 1 = L at *
      have HL := Lib.hid hL
      clear e6 hL
      go_wp2_with fail
      refine bodyPost_ret (results_Cost rfl _ _ _ rfl ?_) rfl ?_
      · go_simp
      · refine ⟨?_, grI⟩
        rw [HL.out]
        go_simp
end Go.Proofs.YtgobdndjemicjaaGreatDoor
namespace Go.Proofs.YtgobdndjemicjaaGreatDoor
open Go Go.RowKit Go.Shelf

theorem opend_any (w : World) (b : Nat) (own : Nat → Prop) (E : Em) (R : Emt w b own E) (H : Mo E) :
    Calls Tryz.prog 21 #[.pointer (some ⟨b, 0, none⟩)] w fun e w' => ∃ s : Sl, e = .returned s.val ∧ Rows' w' s 3 (if E.err ≠ 0 then [] else E.pend) ∧ Grow w w' := by
  by_cases he : E.err = 0
  · exact epending_any w b own E R (by have := (H.get he).ok.pend; omega)
  · rw [if_pos he]
    refine (epend_bad w _ E.err he (errsAt_em R)).mono ?_
    rintro _ w' ⟨rfl, g⟩
    exact ⟨.nil, rfl, Rows'.nil _ _, g⟩
theorem Out.og {L n m : Nat} {d : List Int} {E : Em} (h : Out L n m d E) (hn : n ≤ 65536) : Og m d E :=
  h.imp id (fun g => ⟨g.err, g.right, g.wid, Nat.le_trans g.evs hn, g.pend, g.draws⟩)
theorem new_out {S : St} (h : checkN S = 0) (hw : WidSt S) (d : List Int) : Out S.objs.length 0 0 d (Em.new S d) := by
  unfold Em.new Em.fail
  rw [h, if_pos rfl]
  by_cases hd : 4096 < d.length
  · rw [if_pos hd]; exact Or.inl (by show (19 : Int) ≠ 0; decide)
  · rw [if_neg hd]; exact Or.inr ⟨rfl, (checkN_zero S).1 h, hw, Nat.le_refl _, Nat.le_refl _, rfl, Nat.le_refl _⟩
end Go.Proofs.YtgobdndjemicjaaGreatDoor
namespace Go.Proofs.YtgobdndjemicjaaGreatDoor
open Go Go.RowKit Go.Shelf

@[go_sem] theorem secondB_list : secondB.toList = [115, 101, 99, 111, 110, 100] := by decide +kernel
def c1N : Nat → Int := upd (upd (upd (fun _ => 0) 0 20) 9 20) 20 2
/-- The chapter's example. -/
def c1S : St := { objs := [], list := fun _ => [], num := c1N }
theorem c1_check : checkN c1S = 0 := by decide +kernel
def c1E : Em := ⟨c1S, [], [], [], 0⟩
theorem c1_new : Em.new c1S [] = c1E := by rw [new_nil, c1_check]; rfl
theorem c1_next : c1E.next.err = 0 ∧ c1E.next.state.num 20 = 5 := by decide +kernel
theorem c1_rg : Rg 0 [] c1E := ⟨rfl, (checkN_zero c1S).1 c1_check, fun i hi => absurd hi (Nat.not_lt_zero i), by decide, by decide, rfl⟩
@[go_sem ↓] theorem build_c1St (ρ : Operand → Value) (dst : Option Tmp) (parts : Array (Nat × Operand)) (ty : TypeId) (pos : String) (after : Array Edge) (guard : Option (Nat × Bool)) :
    execOp ρ { dst, op := .build 29 parts, type := ty, pos, after, guard } = bdRow 29 (parts.map fun (i, x) => (i, ρ x)) := rfl
@[go_sem] theorem c1_state (w : World) : (bdRow 29 #[]).run Tryz.prog w = .ok (.value (.agg (stA SV.zero fun _ => 0))) w := by kernel_rfl
@[go_sem] theorem c1_num0 : (stA SV.zero fun _ => 0).setIfInBounds 12 (.int .i64 20) = stA SV.zero (upd (fun _ => 0) 0 20) := stA_setNum SV.zero (fun _ => 0) 0 20 (by omega)
@[go_sem] theorem c1_num9 : (stA SV.zero (upd (fun _ => 0) 0 20)).setIfInBounds 21 (.int .i64 20) = stA SV.zero (upd (upd (fun _ => 0) 0 20) 9 20) := stA_setNum SV.zero (upd (fun _ => 0) 0 20) 9 20 (by omega)
@[go_sem] theorem c1_num20 : (stA SV.zero (upd (upd (fun _ => 0) 0 20) 9 20)).setIfInBounds 32 (.int .i64 2) = stA SV.zero c1N := stA_setNum SV.zero (upd (upd (fun _ => 0) 0 20) 9 20) 20 2 (by omega)
theorem c1_rep (w : World) : RepSt w SV.zero c1S := ⟨Rows'.nil _ _, fun z _ => ⟨rfl, Nat.le_refl _, fun i hi => by cases hi⟩⟩
set_option maxRecDepth 100000 in
set_option maxHeartbeats 4000000 in
theorem alive25_any (w : World) (GL : GlobE w (fun k => w.heap.size ≤ k)) (hnm : w.cell? ⟨1, 5, none⟩ = some (.string secondB)) : Calls Tryz.prog 13 #[] w fun e w' => e = .returned (.bool true) ∧ Grow w w' := by
  obtain ⟨hq0, hq5⟩ := c1_next
  have hb := (cell_blk hnm).1
  have HNew := Lib.hid (fun W (g : Grow w W) => by have := new_any c1S SV.zero W (c1_rep W) ⟨Nat.zero_le _, fun _ _ => Nat.zero_le _⟩ (GL.base.grow g) .nil [] (Ints.nil W) (by simp); rw [c1_new] at this; exact this)
  have hnum : c1S.num = c1N := rfl
  rw [hnum] at HNew
  have HGL := Lib.hid GL
  have hO1 : Og 0 [] c1E := Or.inr c1_rg
  have hO2 : Og 0 [] c1E.next := hO1.next
  have HNx := Lib.hid (fun W b own (R : Emt W b own c1E) (G : GlobE W own) => next_any W b own c1E R (dr := []) (by simp) hO1 G)
  have HM2 := Lib.hid (hO2.mo (by omega) (by simp))
  generalize c1E.next = E2 at *
  have HNM := Lib.hid hnm
  clear GL hnum hO1 hO2 hnm
  go_enter Tryz.func13, Tryz.ntmps13
  go_wp2_with (go_at_call 15; refine (HNew.out _ grI).mono ?_; rintro e' w1 ⟨b, own, rfl, hem, hown, nN, rfl⟩)
  have hg1 : Grow w ((w.alloc (.cells (stA SV.zero c1N) 29)).plus nN) := grI
  have hown1 : ∀ k, own k → w.heap.size ≤ k := fun k hk => by have := (hown k hk).1; simp only [alloc_size'] at this; omega
  have hgl1 : GlobE _ own := HGL.out.kept (hg1.kept _) (fun k hk => Or.inr (hown1 k hk))
  have hnx := HNx.out _ b own hem hgl1
  refine hnx.mono ?_
  clear hnx hown HNx HNew hgl1
  generalize (w.alloc (.cells (stA SV.zero c1N) 29)).plus nN = W1 at *
  rintro e' w2 ⟨rfl, hE⟩
  obtain ⟨own2, T2⟩ := (Turn.first hem).step (Grow.refl _) hE
  have HSt := Lib.hid (fun W (g : Grow w2 W) => ostate_any W b own2 E2 (T2.em.grow g) HM2.out)
  have HEr := Lib.hid (fun W (g : Grow w2 W) => by have := err_any W b own2 E2 (T2.em.grow g); rw [hq0, errV_0] at this; exact this)
  have HG3 := Lib.hid (T2.kept.grow_of hg1 hown1 : Grow w w2)
  clear hE T2 hem hown1 hg1 hq0 HM2
  have HNa := Lib.hid (fun W (g : Grow w2 W) => name_any W (by
    obtain ⟨x, rfl⟩ := HG3.out.trans g
    rw [plus_cell_lt _ _ _ _ hb]; exact HNM.out))
  have e20 : gt [E2.state.num 18, E2.state.num 19, E2.state.num 20, E2.state.num 21, E2.state.num 22, E2.state.num 23, E2.state.num 24] 2 = 5 := hq5
  generalize E2.state = S2 at *
  clear hq5 hb
  go_wp2_with (first | (go_at_call 17; refine (HEr.out _ grI).mono ?_; rintro e' w' ⟨rfl, nx, rfl⟩) | (go_at_call 18; refine (HSt.out _ grI).mono ?_; rintro e' w' ⟨V', rfl, _, _, nS, rfl⟩) | (go_at_call 41; refine (HNa.out _ grI).mono ?_; rintro e' w' ⟨rfl, nx, rfl⟩))
  go_ret
  exact ⟨by rfl, Grow.trans HG3.out grI⟩
end Go.Proofs.YtgobdndjemicjaaGreatDoor
namespace Go.Proofs.YtgobdndjemicjaaGreatDoor
open Go Go.RowKit Go.Shelf

theorem poolL_bare {T : St} (h : Bare T) (p : Nat) (hp : p < 2) : poolL T.num p = [0, 0, 0, 0, 0, 0] := by
  unfold poolL
  rw [h p 0 hp (by omega), h p 1 hp (by omega), h p 2 hp (by omega), h p 3 hp (by omega), h p 4 hp (by omega), h p 5 hp (by omega)]
@[go_sem] theorem run_equal_cost0 (w : World) : (Op.equalIn 10000 33 (.agg (cellsOf [0, 0, 0, 0, 0, 0])) (.agg (cellsOf [0, 0, 0, 0, 0, 0]))).run Tryz.prog w = .ok true w := by
  have := run_equalIn_ints w 33 3 6 Tryz.underlying33 Tryz.underlying3 (by kernel_rfl) 9998 [0, 0, 0, 0, 0, 0] [0, 0, 0, 0, 0, 0] rfl rfl
  rw [show (10000 : Nat) = 9998 + 2 from rfl, this]; rfl
set_option maxRecDepth 100000 in
set_option maxHeartbeats 8000000 in
theorem keeps25_law (S : St) (V : SV) (w : World) (R : RepSt w V S) (GL : GlobE w (fun k => w.heap.size ≤ k)) (HA : ∀ W, Grow w W → Calls Tryz.prog 13 #[] W fun e w' => e = .returned (.bool true) ∧ Grow W w')
    (sd : Sl) (draws : List Int) (RD : Ints w sd draws) (hsd : sd.n ≤ 9223372036854775807) (many : Int) :
    Calls Tryz.prog 4 #[.agg (stA V S.num), sd.val, .int .i64 many] w fun e w' => e = .returned (.bool true) ∧ Grow w w' := by
  have HAl := Lib.hid HA
  have HLo := Lib.hid (fun W (g : Grow w W) => long_any S V 40 (by omega) W (R.grow g))
  cases hl : longB S 40 with
  | true =>
    rw [hl] at HLo
    clear R GL hl HA RD hsd
    go_enter Tryz.func4, Tryz.ntmps4
    go_wp2_with (first | (go_at_call 13; refine (HAl.out _ grI).mono ?_; rintro e' w' ⟨rfl, nx, rfl⟩) | (go_at_call 9; refine (HLo.out _ grI).mono ?_; rintro e' w' ⟨rfl, nx, rfl⟩))
    go_ret
    exact ⟨rfl, grI⟩
  | false =>
  have hsm := long_small 40 hl
  have hSm := hsm.small (show 50 ≤ 1048576 by omega)
  rw [hl] at HLo
  have HCk := Lib.hid (fun W (g : Grow w W) => refCheck_any S V W (R.grow g) hSm)
  cases hck : (checkN S == 0) with
  | false =>
    have hckb : (checkN S != 0) = true := by simpa using hck
    have hckn : ¬ checkN S = 0 := by simpa using hck
    generalize checkN S = n at *
    clear R GL hl HA RD hsd hck hsm hSm
    go_enter Tryz.func4, Tryz.ntmps4
    go_wp2_with (first | (go_at_call 13; refine (HAl.out _ grI).mono ?_; rintro e' w' ⟨rfl, nx, rfl⟩) | (go_at_call 9; refine (HLo.out _ grI).mono ?_; rintro e' w' ⟨rfl, nx, rfl⟩) | (go_at_call 14; refine (HCk.out _ grI).mono ?_; rintro e' w' ⟨rfl, nx, rfl⟩))
    go_ret
    exact ⟨rfl, grI⟩
  | true =>
  have hc0 : checkN S = 0 := by simpa using hck
  rw [hc0] at HCk
  by_cases hd : 200 < sd.n
  · have hd' : (200 : Int) < (sd.n : Int) := by omega
    clear R GL hl HA RD hck hsm hSm
    go_enter Tryz.func4, Tryz.ntmps4
    go_wp2_with (first | (go_at_call 13; refine (HAl.out _ grI).mono ?_; rintro e' w' ⟨rfl, nx, rfl⟩) | (go_at_call 9; refine (HLo.out _ grI).mono ?_; rintro e' w' ⟨rfl, nx, rfl⟩) | (go_at_call 14; refine (HCk.out _ grI).mono ?_; rintro e' w' ⟨rfl, nx, rfl⟩))
    go_ret
    exact ⟨rfl, grI⟩
  have hd' : ((200 : Int) < (sd.n : Int)) = False := by simp; omega
  have hdl : draws.length ≤ 200 := by have := RD.len; omega
  have HNew := Lib.hid (fun W (g : Grow w W) => new_any S V W (R.grow g) hSm (GL.base.grow g) sd draws (RD.grow g) (by omega))
  have HOut := Lib.hid ((new_out hc0 (fun i hi => R.objs.wid i hi) draws).og (by omega))
  have hnow : (Em.new S draws).now = S := fail_now _ _
  have herr : (Em.new S draws).err = 0 := by unfold Em.new Em.fail; rw [hc0, if_pos rfl, if_neg (by omega)]
  have hNb : wrap64 (1 + wrap64 ((IntKind.u64.wrap many).tmod 9)) ≤ 9 := by
    have h1 := Int.tmod_lt_of_pos (IntKind.u64.wrap many) (show (0 : Int) < 9 by omega)
    have h2 := Int.lt_tmod_of_pos (IntKind.u64.wrap many) (show (0 : Int) < 9 by omega)
    generalize (IntKind.u64.wrap many).tmod 9 = x at *
    unfold wrap64
    omega
  have HR := Lib.hid R
  have HGL := Lib.hid GL
  clear hl HA R GL hsm RD hsd hck hd
  generalize Em.new S draws = E0 at *
  go_enter Tryz.func4, Tryz.ntmps4
  go_wp2_with (first | (go_at_call 13; refine (HAl.out _ grI).mono ?_; rintro e' w' ⟨rfl, m1, rfl⟩) | (go_at_call 9; refine (HLo.out _ grI).mono ?_; rintro e' w' ⟨rfl, m2, rfl⟩) | (go_at_call 14; refine (HCk.out _ grI).mono ?_; rintro e' w' ⟨rfl, m3, rfl⟩) | (go_at_call 15; refine (HNew.out _ grI).mono ?_; rintro e' w1 ⟨b, own, rfl, hem, hown, nN, rfl⟩; have HEM := Lib.hid hem; have HOW := Lib.hid hown; clear hem hown))
  have hem := HEM.out
  have how := HOW.out
  (try simp only [drew_plus] at hem); (try simp only [plus_plus] at hem)
  have hownw : ∀ k, own k → w.heap.size < k := fun k hk => by
    have h1 := (how k hk).1
    simp only [plus_size, alloc_size'] at h1
    omega
  have hgW : Grow w ((w.alloc (.cells (stA V S.num) 29)).plus (((m1.and m2).and m3).and nN)) := grI
  have hqb : ((w.alloc (.cells (stA V S.num) 29)).plus (((m1.and m2).and m3).and nN)).blk w.heap.size = stA V S.num := by go_simp
  have hql : w.heap.size < ((w.alloc (.cells (stA V S.num) 29)).plus (((m1.and m2).and m3).and nN)).heap.size := (by first | (go_simp; done) | (go_simp; omega) | (simp only [Sl.b]; go_simp; omega))
  clear HEM HOW how HNew HAl HLo HCk
  generalize (w.alloc (.cells (stA V S.num) 29)).plus (((m1.and m2).and m3).and nN) = W1 at *
  have HGW := Lib.hid hgW
  have HEM := Lib.hid hem
  have HOW := Lib.hid hownw
  have HQB := Lib.hid hqb
  have HQL := Lib.hid hql
  have HGLW := Lib.hid (HGL.out.kept (own' := own) (hgW.kept _) (fun k hk => Or.inl (Nat.le_of_lt (hownw k hk))))
  have HC0 := Lib.hid (And.intro herr (congrArg cardsN hnow))
  clear hem hownw hgW hqb hql hnow herr
  generalize wrap64 (1 + wrap64 ((IntKind.u64.wrap many).tmod 9)) = N at *
  go_loopw [31] (fun i wr => ∃ (k : Nat) (ownk : Nat → Prop) (Ek : Em), k ≤ 9 ∧ i = .int .i64 k ∧ Turn W1 b own Ek wr ownk ∧ Hid (Og 0 draws Ek ∧ Ek.err = 0 ∧ cardsN Ek.now = cardsN S)) (fun i _ => 10 - (intOf i).toNat)
  case atStart => exact ⟨0, own, E0, by omega, rfl, Turn.first HEM.out, HOut.out, HC0.out⟩
  case round =>
    obtain ⟨k, ownk, Ek, hk, rfl, hTu, HO⟩ := hrel
    by_cases hlt : (k : Int) < N
    · have HNx := Lib.hid (fun W (g : Grow wr W) => next_any W b ownk Ek (hTu.em.grow g) (show draws.length ≤ 1048576 by omega) HO.out.1 ((hTu.glob HGLW.out).grow g))
      have HTu := Lib.hid hTu
      have hON := HO.out.1.next
      clear hTu
      go_wp2_with fail
      refine (HNx.out _ grI).mono ?_
      rintro e' w2 ⟨rfl, hE⟩
      obtain ⟨own2, T2⟩ := HTu.out.step grI hE
      have HG2 := Lib.hid (T2.kept.grow_of HGW.out (fun k hk => Nat.le_of_lt (HOW.out k hk)) : Grow w w2)
      by_cases he : Ek.next.err = 0
      · obtain ⟨l1, l2, l3, l4, l5⟩ := next_law HO.out.1 HO.out.2.1 he
        have hmoN := hON.mo (by omega) (show draws.length ≤ 1048576 by omega)
        have HEr := Lib.hid (fun W (g : Grow w2 W) => by have := err_any W b own2 _ (T2.em.grow g); rw [he, errV_0] at this; exact this)
        have HSt := Lib.hid (fun W (g : Grow w2 W) => by have := ostate_any W b own2 _ (T2.em.grow g) hmoN; rw [state_ok he] at this; exact this)
        have HPe := Lib.hid (fun W (g : Grow w2 W) => by have := opend_any W b own2 _ (T2.em.grow g) hmoN; rw [l5, ite_self] at this; exact this)
        have hqb2 : w2.blk w.heap.size = stA V S.num := by rw [T2.kept.blk _ HQL.out (fun h => by have := HOW.out _ h; omega)]; exact HQB.out
        have hql2 : w.heap.size < w2.heap.size := by have := T2.kept.size; have := HQL.out; omega
        have HOK := Lib.hid (And.intro hON (And.intro he (l2.trans HO.out.2.2)))
        have HT2 := Lib.hid T2
        have hRN := l1.right
        have hSmN : Small Ek.next.now := hRN.smallN.small (by omega)
        have hckN : checkN Ek.next.now = 0 := (checkN_zero _).2 hRN
        have HBa := Lib.hid l3
        have HCE := Lib.hid (l2.trans HO.out.2.2)
        have e22 : gt [Ek.next.now.num 18, Ek.next.now.num 19, Ek.next.now.num 20, Ek.next.now.num 21, Ek.next.now.num 22, Ek.next.now.num 23, Ek.next.now.num 24] 4 = 0 := l4
        clear hE T2 HNx l1 l2 l3 l4 l5 hmoN hON he HO HTu
        generalize Ek.next = En at *
        generalize hT0 : En.now = T at *
        have HT0 := Lib.hid hT0
        clear hT0
        go_wp2_with (go_at_call 17; refine (HEr.out _ grI).mono ?_; rintro e' w' ⟨rfl, nx, rfl⟩)
        refine (HSt.out _ grI).mono ?_
        rintro e' w3 ⟨V', rfl, hR', _, hG'⟩
        have hG23 : Grow w2 w3 := Grow.trans grI hG'
        have hqb3 : w3.blk w.heap.size = stA V S.num := by rw [blk_grow hG23 hql2]; exact hqb2
        have hql3 : w.heap.size < w3.heap.size := Nat.lt_of_lt_of_le hql2 hG23.size
        have HCkT := Lib.hid (fun W (g : Grow w3 W) => by have := refCheck_any T V' W (hR'.grow g) hSmN; rw [hckN] at this; exact this)
        have HCaT := Lib.hid (fun W (g : Grow w3 W) => by have := scards_any T V' W (hR'.grow g) hSmN.objs; rw [HCE.out] at this; exact this)
        have HCaS := Lib.hid (fun W (g : Grow w3 W) => scards_any S V W (HR.out.grow (HG2.out.trans (hG23.trans g))) hSm.objs)
        have HP0 := Lib.hid (fun W => by have := pool_any T.num V' W 0 (Or.inl rfl); rw [poolL_bare HBa.out 0 (by omega)] at this; exact this)
        have HP1 := Lib.hid (fun W => by have := pool_any T.num V' W 1 (Or.inr rfl); rw [poolL_bare HBa.out 1 (by omega)] at this; exact this)
        have HPe3 := Lib.hid (fun W (g : Grow w3 W) => HPe.out W (hG23.trans g))
        have HT3 := Lib.hid (HT2.out.grow hG23)
        generalize hcn : cardsN S = cn at *
        have HCN := Lib.hid hcn
        clear hcn
        clear hG' hG23 hR' hqb2 hql2 hRN hSmN hckN HSt HEr HPe HT2
        go_wp2_with fail
        have hcell : (w3.alloc (.cells (stA V' T.num) 29)).cell? ⟨w3.heap.size, 34, none⟩ = some (I 0) := by
          rw [alloc_cell, if_pos rfl]
          show some (I (T.num 22)) = some (I 0)
          rw [show T.num 22 = 0 from e22]
        have hblk : (w3.alloc (.cells (stA V' T.num) 29)).blk w3.heap.size = stA V' T.num := by go_simp
        have hblS : (w3.alloc (.cells (stA V' T.num) 29)).blk w.heap.size = stA V S.num := by rw [blk_alloc, if_neg (by omega)]; exact hqb3
        have hsz4 : (w3.alloc (.cells (stA V' T.num) 29)).heap.size = w3.heap.size + 1 := alloc_size' _ _
        have HG4 := Lib.hid (show Grow w3 (w3.alloc (.cells (stA V' T.num) 29)) from grI)
        have HCkT4 := Lib.hid (fun W g => HCkT.out W (HG4.out.trans g))
        have HCa4 : Hid (∀ (V0 : SV) (num0 : Nat → Int), (V0 = V' ∧ num0 = T.num) ∨ (V0 = V ∧ num0 = S.num) → ∀ W, Grow (w3.alloc (.cells (stA V' T.num) 29)) W → Calls Tryz.prog 19 #[.agg (stA V0 num0)] W fun e w' => e = .returned (.int .i64 (cn : Int)) ∧ Grow W w') := by
          rintro V0 num0 (⟨rfl, rfl⟩ | ⟨rfl, rfl⟩) W g
          · exact HCaT.out W (HG4.out.trans g)
          · exact HCaS.out W (HG4.out.trans g)
        have HP4 : Hid (∀ p : Int, p = 0 ∨ p = 1 → ∀ W, Calls Tryz.prog 20 #[.agg (stA V' T.num), .int .i64 p] W fun e w' => e = .returned (.agg (cellsOf [0, 0, 0, 0, 0, 0])) ∧ Grow W w') := by
          rintro p (rfl | rfl) W
          · exact HP0.out W
          · exact HP1.out W
        clear HP0 HP1
        have HPe4 := Lib.hid (fun W g => HPe3.out W (HG4.out.trans g))
        have HT4 := Lib.hid (HT3.out.grow HG4.out)
        have hq4 : w.heap.size < w3.heap.size := hql3
        generalize hq : w3.heap.size = q at *
        clear HCkT HCaT HCaS HPe3 HT3 hqb3 hql3 HBa HCE
        generalize w3.alloc (.cells (stA V' T.num) 29) = W5 at *
        have hl5 : q < W5.heap.size := by omega
        have hl6 : w.heap.size < W5.heap.size := by omega
        go_region_held3 (fun W => W.blk w.heap.size = stA V S.num ∧ W.blk q = stA V' T.num ∧ W.cell? ⟨q, 34, none⟩ = some (I 0)) (simp [go_sem, *]) (first | (go_at_call 14; refine (HCkT4.out _ grI).mono ?_; rintro e' w' ⟨rfl, nx, rfl⟩) | (go_at_call 19; refine (HCa4.out _ _ (by first | exact .inl ⟨rfl, rfl⟩ | exact .inr ⟨rfl, rfl⟩) _ grI).mono ?_; rintro e' w' ⟨rfl, nx, rfl⟩) | (go_at_call 20; refine (HP4.out _ (by first | exact .inl rfl | exact .inr rfl) _).mono ?_; rintro e' w' ⟨rfl, nx, rfl⟩) | (go_at_call 21; refine (HPe4.out _ grI).mono ?_; rintro e' w' ⟨sp, rfl, hRp, nx, rfl⟩; have hpn : sp.n = 0 := hRp.len; clear hRp))
        all_goals
          have hk9 : k + 1 ≤ 9 := by omega
          clear HCkT4 HCa4 HP4 HPe4
          go_wp2_with fail
          go_roundw
          case rel => exact ⟨k + 1, own2, En, hk9, by go_num, HT4.out.grow grI, by rw [Hid, HT0.out, HCN.out]; exact HOK.out⟩
          case measure => simp [intOf]; omega
      · have HEr := Lib.hid (fun W (g : Grow w2 W) => by have := err_any W b own2 _ (T2.em.grow g); rw [errV_is he] at this; exact this)
        clear hE T2 HNx he hON HO HTu
        go_wp2_with (go_at_call 17; refine (HEr.out _ grI).mono ?_; rintro e' w' ⟨rfl, nx, rfl⟩)
        go_ret
        exact ⟨rfl, Grow.trans HG2.out grI⟩
    · have hlt' : ((k : Int) < N) = False := by simpa using hlt
      have HG2 := Lib.hid (hTu.kept.grow_of HGW.out (fun k hk => Nat.le_of_lt (HOW.out k hk)) : Grow w wr)
      clear hlt
      go_wp2_with fail
      go_ret
      exact ⟨rfl, Grow.trans HG2.out grI⟩
end Go.Proofs.YtgobdndjemicjaaGreatDoor
