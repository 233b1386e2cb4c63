/-
  The walks of an emitter's Player and Life.
  What setting a number of what stands on the field, or a player's life, does to an emitter: in plain Lean.
  A right state that an emitter does not touch.
  What the statics of a right state are, in plain Lean.
-/
import Derived.Test.YtgobdndjemicjaaGreatDoorMEm
import Derived.Test.YtgobdndjemicjaaGreatDoorMIs19
import Derived.Test.YtgobdndjemicjaaGreatDoorMIs
import Derived.Test.YtgobdndjemicjaaGreatDoorMUses
namespace Go.Proofs.YtgobdndjemicjaaGreatDoor
open Go Go.RowKit Go.Shelf

def Em.setPl (E : Em) (p f n : Int) : Em :=
  if E.err ≠ 0 then E
  else if evCheck [3, p, f, 0, 0, 0] ≠ 0 then E.do1 [3, p, f, 0, 0, 0]
  else E.set [3, p, f, 0, 0, 0] (E.now.num (p.toNat * 9 + f.toNat)) n
def betw (n least most : Int) : Int := max (min n most) least
def Em.life (E : Em) (p more : Int) : Em :=
  if E.err ≠ 0 then E
  else if ¬ (p = 0 ∨ p = 1) then { E with err := 1 }
  else E.setPl p 0 (betw (E.now.num (p.toNat * 9) + betw more (-2147483648) 2147483648) (-1073741824) 1073741824)
theorem EmOk.setPl {E : Em} {n : Nat} (h : EmOk E n) (p f v : Int) : EmOk (E.setPl p f v) (n + 1) := by
  unfold Em.setPl
  split
  · exact h.mono (Nat.le_succ n)
  split
  · exact h.do1 _
  · exact h.set _ _ _
theorem EmOk.life {E : Em} {n : Nat} (h : EmOk E n) (p v : Int) : EmOk (E.life p v) (n + 1) := by
  unfold Em.life
  split
  · exact h.mono (Nat.le_succ n)
  split
  · exact ⟨(h.mono (Nat.le_succ n)).small, h.evs, (h.mono (Nat.le_succ n)).pend⟩
  · exact h.setPl _ _ _
theorem check_pl {p f : Int} (h : evCheck [3, p, f, 0, 0, 0] = 0) : 0 ≤ p ∧ p < 2 ∧ 0 ≤ f ∧ f < 9 := by
  unfold evCheck evSpare evRanges evMakes inR evSmall inB at h
  simp only [gt, List.getD_cons_zero, List.getD_cons_succ] at h
  simp at h
  omega
@[go_sem] theorem run_build_evPl (w : World) (a f : Int) : (bdRow 122 #[(0, .int .i64 3), (1, .int .i64 a), (2, .int .i64 f)]).run Tryz.prog w = .ok (.value (.agg (cellsOf [3, a, f, 0, 0, 0]))) w := by kernel_rfl
set_option maxRecDepth 100000 in
set_option maxHeartbeats 4000000 in
theorem esetPl_any (w : World) (b : Nat) (own : Nat → Prop) (E : Em) (R : Emt w b own E) (n : Nat) (K : EmOk E n) (hn : n + 1 ≤ 1000000) (p f v : Int) :
    Calls Tryz.prog 70 #[.pointer (some ⟨b, 0, none⟩), .int .i64 p, .int .i64 f, .int .i64 v] w fun r w' => r = .returned (.tuple #[]) ∧ EPost w b own (E.setPl p f v) w' := by
  have hown := R.lt
  have HEr := Lib.hid (fun W (g : Grow w W) => err_any W b own E (R.grow g))
  have HR0 := Lib.hid R
  unfold Em.setPl
  by_cases he : E.err = 0
  · rw [if_neg (by rw [he]; simp)]
    rw [he, errV_0] at HEr
    have HC := Lib.hid (fun W => evCheck_any [3, p, f, 0, 0, 0] rfl W)
    have HD := Lib.hid (fun W (g : Grow w W) (q : Nat) (h : W.blk q = cellsOf [3, p, f, 0, 0, 0]) (hq : ¬ own q) => edo_any W b own E (R.grow g) n K (.mk q 0 1 1) [[3, p, f, 0, 0, 0]] ((one_row W q 6 _ rfl h).rows (by omega) (wid_of (fun r hr => by rw [List.mem_singleton] at hr; subst hr; rfl))) (fun _ => hq) (by simp; omega))
    have HS := Lib.hid (fun W (g : Grow w W) was => eset_any W b own E (R.grow g) n K hn [3, p, f, 0, 0, 0] rfl was v)
    have HL := Lib.hid hown
    obtain ⟨V, sd, se, sp, hr, ho⟩ := R
    have hH := hr.host
    have hcell := cell_of_blk (hH).free (hH).blk; have hfz := frozen_of_free (hH).free; have hset := setCell_of_blk (hH).free (hH).blk; have hblk := (hH).blk; have hfree := (hH).free; have hlt := (hH).lt; have hne1 : ¬ b = (w).heap.size := (by omega); have hne2 : ¬ (w).heap.size = b := (by omega)
    have hck : evCheck [3, p, f, 0, 0, 0] = 0 → 0 ≤ p ∧ p < 2 ∧ 0 ≤ f ∧ f < 9 := check_pl
    clear hr ho hH hblk K hown he
    by_cases hc : evCheck [3, p, f, 0, 0, 0] = 0
    · obtain ⟨p0, p1, f0, f1⟩ := hck hc
      rw [hc, errV_0] at HC
      clear hck
      rw [if_neg (by rw [hc]; simp)]
      obtain ⟨q, rfl⟩ := Int.eq_ofNat_of_zero_le p0
      obtain ⟨j, rfl⟩ := Int.eq_ofNat_of_zero_le f0
      rw [Int.toNat_natCast, Int.toNat_natCast]
      have hj : j < 9 := by omega
      have hq : q < 2 := by omega
      have hcg : (hoA V E.now.num (emR sd se sp E.err))[12 + q * 9 + j]? = some (I (E.now.num (q * 9 + j))) := by
        rw [hoA_lt _ _ _ _ (by omega), show 12 + q * 9 + j = 12 + (q * 9 + j) by omega, stA_num _ _ _ (by omega)]
      have hcc : w.cell? ⟨b, 12 + q * 9 + j, none⟩ = some (I (E.now.num (q * 9 + j))) := by rw [hcell]; exact hcg
      clear hc hcell hcg hset
      generalize E.now.num (q * 9 + j) = u at *
      go_enter Tryz.func70, Tryz.ntmps70
      go_wp2_with (first | (go_at_call 17; refine (HEr.out _ grI).mono ?_; rintro e' w' ⟨rfl, nx, rfl⟩) | (go_at_call 114; refine (HC.out _).mono ?_; rintro e' w' ⟨rfl, nx, rfl⟩))
      go_region_law (refine step_wanted (by rfl) ?_; go_simp; go_at_call 115; refine (HS.out _ grI _).mono ?_; rintro e' w2 ⟨rfl, hE⟩; have HE := Lib.hid hE; clear hE)
      all_goals
        go_wp2_with fail
        go_end0
        exact ⟨rfl, EPost.low grI HE.out⟩
    · rw [if_pos hc]
      rw [errV_is hc] at HC
      clear hc hck
      go_enter Tryz.func70, Tryz.ntmps70
      go_wp2_with (first | (go_at_call 17; refine (HEr.out _ grI).mono ?_; rintro e' w' ⟨rfl, nx, rfl⟩) | (go_at_call 114; refine (HC.out _).mono ?_; rintro e' w' ⟨rfl, nx, rfl⟩) | (go_at_call 90; refine (HD.out _ grI _ (by go_simp) (fun hq => by have := HL.out _ hq; (try simp only [plus_size, alloc_size'] at this); omega)).mono ?_; rintro e' w' ⟨rfl, hE⟩; have HE := Lib.hid hE; clear hE))
      refine bodyPost_ret (results_none rfl _ _ _) rfl ?_
      exact ⟨rfl, EPost.low grI HE.out⟩
  · rw [if_pos he]
    rw [errV_is he] at HEr
    clear he R K hown
    go_enter Tryz.func70, Tryz.ntmps70
    go_wp2_with (go_at_call 17; refine (HEr.out _ grI).mono ?_; rintro e' w' ⟨rfl, nx, rfl⟩)
    refine bodyPost_ret (results_none rfl _ _ _) rfl ?_
    exact ⟨rfl, .of_grow HR0.out grI⟩
theorem between_any (w : World) (n a b : Int) : Calls Tryz.prog 128 #[.int .i64 n, .int .i64 a, .int .i64 b] w fun e w' => e = .returned (.int .i64 (betw n a b)) ∧ Grow w w' := by
  go_enter Tryz.func128, Tryz.ntmps128
  go_wp2_with fail
  go_ret
  exact ⟨rfl, grI⟩
/-- Is there such a player, in an emitter without an error? -/
theorem player_good (w : World) (b : Nat) (own : Nat → Prop) (E : Em) (R : Emt w b own E) (he : E.err = 0) (p : Int) (hp : p = 0 ∨ p = 1) :
    Calls Tryz.prog 127 #[.pointer (some ⟨b, 0, none⟩), .int .i64 p] w fun e w' => e = .returned (.bool true) ∧ Grow w w' := by
  have HM := Lib.hid (fun W (g : Grow w W) => must_true W b own E (R.grow g) he 1)
  clear R he
  rcases hp with rfl | rfl
  · go_enter Tryz.func127, Tryz.ntmps127
    go_wp2_with (go_at_call 87; refine (HM.out _ grI).mono ?_; rintro e' w' ⟨rfl, nx, rfl⟩)
    go_ret
    exact ⟨rfl, grI⟩
  · go_enter Tryz.func127, Tryz.ntmps127
    go_wp2_with (go_at_call 87; refine (HM.out _ grI).mono ?_; rintro e' w' ⟨rfl, nx, rfl⟩)
    go_ret
    exact ⟨rfl, grI⟩
set_option maxRecDepth 100000 in
set_option maxHeartbeats 4000000 in
theorem elife_good (w : World) (b : Nat) (own : Nat → Prop) (E : Em) (R : Emt w b own E) (he : E.err = 0) (n : Nat) (K : EmOk E n) (hn : n + 1 ≤ 1000000) (p : Nat) (hp : p < 2) (hv : -1073741824 ≤ E.now.num (p * 9) ∧ E.now.num (p * 9) ≤ 1073741824) (more : Int) :
    Calls Tryz.prog 72 #[.pointer (some ⟨b, 0, none⟩), .int .i64 (p : Int), .int .i64 more] w fun r w' => r = .returned (.tuple #[]) ∧ EPost w b own (E.life p more) w' := by
  have HP := Lib.hid (fun W (g : Grow w W) => player_good W b own E (R.grow g) he (p : Int) (by omega))
  have HB := Lib.hid (fun W => between_any W)
  have HS := Lib.hid (fun W (g : Grow w W) v => esetPl_any W b own E (R.grow g) n K hn (p : Int) 0 v)
  have HE0 : Hid (∀ v, v = betw (E.now.num (p * 9) + betw more (-2147483648) 2147483648) (-1073741824) 1073741824 → E.life p more = E.setPl p 0 v) := fun v h => by
    subst h
    unfold Em.life
    rw [if_neg (by rw [he]; simp), if_neg (by omega), Int.toNat_natCast]
  obtain ⟨V, sd, se, sp, hr, ho⟩ := R
  have hH := hr.host
  have hcell := cell_of_blk (hH).free (hH).blk; have hfz := frozen_of_free (hH).free; have hset := setCell_of_blk (hH).free (hH).blk; have hblk := (hH).blk; have hfree := (hH).free; have hlt := (hH).lt; have hne1 : ¬ b = (w).heap.size := (by omega); have hne2 : ¬ (w).heap.size = b := (by omega)
  have hcc : w.cell? ⟨b, 12 + p * 9, none⟩ = some (I (E.now.num (p * 9))) := by rw [hcell, hoA_lt _ _ _ _ (by omega), stA_num _ _ _ (by omega)]
  have hbb : -2147483648 ≤ betw more (-2147483648) 2147483648 ∧ betw more (-2147483648) 2147483648 ≤ 2147483648 := by unfold betw; omega
  have hwr : wrap64 (E.now.num (p * 9) + betw more (-2147483648) 2147483648) = E.now.num (p * 9) + betw more (-2147483648) 2147483648 := by unfold wrap64; omega
  have hpi : (p : Int) < 2 := by omega
  have hp0 : (0 : Int) ≤ (p : Int) := by omega
  clear hr ho hH hblk K he hcell hset hbb hv
  generalize E.now.num (p * 9) = u at *
  go_enter Tryz.func72, Tryz.ntmps72
  go_wp2_with (first | (go_at_call 127; refine (HP.out _ grI).mono ?_; rintro e' w' ⟨rfl, nx, rfl⟩) | (go_at_call 128; refine (HB.out _ _ _ _).mono ?_; rintro e' w' ⟨rfl, nx, rfl⟩) | (go_at_call 70; refine (HS.out _ grI _).mono ?_; rintro e' w2 ⟨rfl, hE⟩; have HE := Lib.hid hE; clear hE))
  go_end0
  exact ⟨rfl, by rw [HE0.out _ rfl]; exact EPost.low grI HE.out⟩
end Go.Proofs.YtgobdndjemicjaaGreatDoor
namespace Go.Proofs.YtgobdndjemicjaaGreatDoor
open Go Go.RowKit Go.Shelf

theorem check_set19 (a f : Nat) (u v : Int) (hf : f < 18) (h3 : f ≠ 3) (hv : -1073741824 ≤ v ∧ v ≤ 1073741824) : evCheck [2, (a : Int), (f : Int), u, v, 0] = 0 := by
  have hf2 : ¬ (f : Int) = 3 := by omega
  unfold evCheck evSpare evRanges evMakes inR evSmall inB
  simp only [gt, List.getD_cons_zero, List.getD_cons_succ]
  simp
  omega
theorem fail_zero {E : Em} (h : E.err = 0) : E.fail 0 = E := by unfold Em.fail; rw [if_pos h, ← h]
/-- What Set does, where it may. -/
theorem setObj_was (E : Em) (a f : Nat) (v : Int) (ha : a < E.now.objs.length) (hf : f < 18) (h3 : f ≠ 3) (hv : -1073741824 ≤ v ∧ v ≤ 1073741824) :
    E.setObj a f v = if E.err ≠ 0 then E else if gt (rowAt E.now.objs a) f = v then E else E.do1 [2, (a : Int), (f : Int), gt (rowAt E.now.objs a) f, v, 0] := by
  unfold Em.setObj
  by_cases he : E.err = 0
  · have hne : ¬ E.err ≠ 0 := by rw [he]; simp
    have hno : ¬ (evCheck [2, (a : Int), (f : Int), 0, 0, 0] ≠ 0 ∨ (E.now.objs.length : Int) ≤ (a : Int)) := by rw [check_set19 a f 0 0 hf h3 (by omega)]; simp; omega
    rw [if_neg hne, if_neg hne, if_neg hno]
    unfold Em.set
    rw [Int.toNat_natCast, Int.toNat_natCast]
    by_cases hx : gt (rowAt E.now.objs a) f = v
    · rw [if_pos hx, if_pos hx]
      show E.fail (evCheck [2, (a : Int), (f : Int), gt (rowAt E.now.objs a) f, v, 0]) = E
      rw [check_set19 a f _ v hf h3 hv, fail_zero he]
    · rw [if_neg hx, if_neg hx]; rfl
  · rw [if_pos he, if_pos he]
theorem check_gpl (p f : Nat) (u v : Int) (hp : p < 2) (hf : f < 9) (hv : -1073741824 ≤ v ∧ v ≤ 1073741824) : evCheck [3, (p : Int), (f : Int), u, v, 0] = 0 := by
  unfold evCheck evSpare evRanges evMakes inR evSmall inB
  simp only [gt, List.getD_cons_zero, List.getD_cons_succ]
  simp
  omega
theorem setPl_of (E : Em) (p f : Nat) (v : Int) (hp : p < 2) (hf : f < 9) (hv : -1073741824 ≤ v ∧ v ≤ 1073741824) :
    E.setPl p f v = if E.err ≠ 0 then E else if E.now.num (p * 9 + f) = v then E else E.do1 [3, (p : Int), (f : Int), E.now.num (p * 9 + f), v, 0] := by
  unfold Em.setPl
  by_cases he : E.err = 0
  · have hne : ¬ E.err ≠ 0 := by rw [he]; simp
    have hno : ¬ (evCheck [3, (p : Int), (f : Int), 0, 0, 0] ≠ 0) := by rw [check_gpl p f 0 0 hp hf (by omega)]; simp
    rw [if_neg hne, if_neg hne, if_neg hno]
    unfold Em.set
    rw [Int.toNat_natCast, Int.toNat_natCast]
    by_cases hx : E.now.num (p * 9 + f) = v
    · rw [if_pos hx, if_pos hx]
      show E.fail (evCheck [3, (p : Int), (f : Int), E.now.num (p * 9 + f), v, 0]) = E
      rw [check_gpl p f _ v hp hf hv, fail_zero he]
    · rw [if_neg hx, if_neg hx]; rfl
  · rw [if_pos he, if_pos he]
theorem do1_ok {E : Em} (he : E.err = 0) (hev : E.evs.length < 65536) {e : List Int} {S : St} (hd : doEv E.now e = .ok S) : E.do1 e = { E with now := S, evs := E.evs ++ [e] } := by
  unfold Em.do1
  rw [if_neg (by rw [he]; simp), hd]
  exact if_pos hev
theorem doEv_set (S : St) (a f : Nat) (v : Int) (ha : a < S.objs.length) (hf : f < 18) (h3 : f ≠ 3) (hv : -1073741824 ≤ v ∧ v ≤ 1073741824) : doEv S [2, (a : Int), (f : Int), gt (rowAt S.objs a) f, v, 0] = .ok (S.setObj a f v) := by
  unfold doEv
  rw [check_set19 a f _ v hf h3 hv, if_neg (by simp)]
  simp only [gt, List.getD_cons_zero, List.getD_cons_succ]
  rw [if_neg (by decide), if_neg (by decide), if_neg (by decide), if_pos trivial, if_neg (by omega), Int.toNat_natCast, Int.toNat_natCast]
  exact if_neg (fun h => h rfl)
theorem doEv_plS (S : St) (p f : Nat) (v : Int) (hp : p < 2) (hf : f < 9) (hv : -1073741824 ≤ v ∧ v ≤ 1073741824) : doEv S [3, (p : Int), (f : Int), S.num (p * 9 + f), v, 0] = .ok (S.setNum (p * 9 + f) v) := by
  unfold doEv
  rw [check_gpl p f _ v hp hf hv, if_neg (by simp)]
  simp only [gt, List.getD_cons_zero, List.getD_cons_succ]
  rw [if_neg (by decide), if_neg (by decide), if_neg (by decide), if_neg (by decide), if_pos trivial, Int.toNat_natCast, Int.toNat_natCast]
  exact if_neg (fun h => h rfl)
/-- A right state stays right where a number of what stands on the field is set. -/
theorem Right.onField {S : St} (h : Right S) (hw : ∀ i, i < S.objs.length → (rowAt S.objs i).length = 18) (a f : Nat) (v : Int) (ha : a < S.objs.length) (h8 : gt (rowAt S.objs a) 3 = 8) (hf : 4 ≤ f ∧ f ≤ 12) (hv : gt (objBounds S.objs.length) (f * 2) ≤ v ∧ v ≤ gt (objBounds S.objs.length) (f * 2 + 1)) : Right (S.setObj a f v) := by
  have hl := setObj_len S a f v
  have hr := fun i => setObj_row S a f i v ha
  have hn : ∀ g, g ≠ f → gt ((rowAt S.objs a).set f v) g = gt (rowAt S.objs a) g := fun g hg => by rw [gt_set _ _ _ _ (by rw [hw a ha]; omega), if_neg (Ne.symm hg)]
  have g3 : ∀ i, gt (rowAt (S.setObj a f v).objs i) 3 = gt (rowAt S.objs i) 3 := fun i => by
    rw [hr]; split
    · rename_i e; subst e; exact hn 3 (by omega)
    · rfl
  have gs : ∀ i z, standsB (rowAt (S.setObj a f v).objs i) z = standsB (rowAt S.objs i) z := fun i z => by
    rw [hr]; split
    · rename_i e; subst e; unfold standsB; rw [hn 1 (by omega), hn 13 (by omega)]
    · rfl
  refine ⟨by rw [hl]; exact h.many, ranges_setObj h.ranges hw _ a f v ha (by omega) rfl rfl (by simp [inB]; exact hv), ⟨fun z hz x hx => ?_, fun id hid => ?_⟩, fun i hi => ?_⟩
  · obtain ⟨p, q, r, s⟩ := h.zon.ok z hz x hx
    exact ⟨p, by rw [hl]; exact q, by rw [g3]; exact r, by rw [gs]; exact s⟩
  · exact h.zon.once id (by rw [hl] at hid; exact hid)
  · rw [hr]; split
    · rename_i e; subst e
      have h1 := h.formed a ha
      unfold formedB at h1 ⊢
      rw [hn 3 (by omega), h8, hn 16 (by omega)]
      rw [h8] at h1
      simp at h1 ⊢
      exact h1
    · exact h.formed i (by rw [hl] at hi; exact hi)
theorem Right.life {S : St} (h : Right S) (p : Nat) (hp : p < 2) (v : Int) (hv : -1073741824 ≤ v ∧ v ≤ 1073741824) : Right (S.setNum (p * 9 + 0) v) := by
  refine ⟨h.many, (rangesB_iff _).2 ⟨((rangesB_iff S).1 h.ranges).1, ?_, ?_⟩, ⟨h.zon.ok, h.zon.once⟩, h.formed⟩
  · have := ((rangesB_iff S).1 h.ranges).2.1
    unfold plsOK okTo at *
    rw [List.all_eq_true] at *
    intro i hi
    have h4 := this i hi
    have hi2 := List.mem_range.1 hi
    rw [List.all_eq_true] at *
    intro j hj
    have h5 := h4 j hj
    have hj2 := List.mem_range.1 hj
    rw [numsL_at _ _ _ _ hj2] at h5 ⊢
    by_cases e : i * 9 + j = p * 9 + 0
    · have hj0 : j = 0 := by omega
      subst hj0
      show inB (upd S.num (p * 9 + 0) v (i * 9 + 0)) (-1073741824) 1073741824 = true
      rw [e, upd_same]
      simp [inB]; exact hv
    · show inB (upd S.num (p * 9 + 0) v (i * 9 + j)) _ _ = true
      rw [upd_ne _ _ _ _ e]; exact h5
  · have := ((rangesB_iff S).1 h.ranges).2.2
    have e1 : numsL (S.setNum (p * 9 + 0) v).num 18 7 = numsL S.num 18 7 := by
      unfold numsL
      exact List.map_congr_left (fun j hj => upd_ne _ _ _ _ (by omega))
    rw [e1]; exact this
/-- An emitter of a right state in which only numbers on the field, and lives, were set. -/
structure Fi (S0 : St) (n : Nat) (E : Em) : Prop where
  err : E.err = 0
  right : Right E.now
  wid : ∀ i, i < E.now.objs.length → (rowAt E.now.objs i).length = 18
  len : E.now.objs.length = S0.objs.length
  list : E.now.list = S0.list
  zone : ∀ i, gt (rowAt E.now.objs i) 3 = gt (rowAt S0.objs i) 3
  evs : E.evs.length ≤ n
  pend : E.pend = []
theorem Fi.ok {S0 : St} {n : Nat} {E : Em} (h : Fi S0 n E) (hn : n ≤ 65536) : EmOk E 65536 := ⟨h.right.smallN.mono (by omega), by have := h.evs; omega, by rw [h.pend]; simp⟩
theorem Fi.small {S0 : St} {n : Nat} {E : Em} (h : Fi S0 n E) : Small E.now := h.right.smallN.small (by omega)
theorem Fi.mono {S0 : St} {n m : Nat} {E : Em} (h : Fi S0 n E) (hm : n ≤ m) : Fi S0 m E := ⟨h.err, h.right, h.wid, h.len, h.list, h.zone, Nat.le_trans h.evs hm, h.pend⟩
theorem Fi.set {S0 : St} {n : Nat} {E : Em} (h : Fi S0 n E) (hn : n < 65536) (a f : Nat) (v : Int) (ha : a < S0.objs.length) (h8 : gt (rowAt S0.objs a) 3 = 8) (hf : 4 ≤ f ∧ f ≤ 12) (hv : gt (objBounds S0.objs.length) (f * 2) ≤ v ∧ v ≤ gt (objBounds S0.objs.length) (f * 2 + 1)) (hb : -1073741824 ≤ v ∧ v ≤ 1073741824) :
    Fi S0 (n + 1) (E.setObj a f v) ∧ (∀ i g, gt (rowAt (E.setObj a f v).now.objs i) g = if i = a ∧ g = f then v else gt (rowAt E.now.objs i) g) ∧ (E.setObj a f v).now.num = E.now.num := by
  have ha2 : a < E.now.objs.length := by rw [h.len]; exact ha
  have h82 : gt (rowAt E.now.objs a) 3 = 8 := by rw [h.zone]; exact h8
  rw [setObj_was E a f v ha2 (by omega) (by omega) hb, if_neg (by rw [h.err]; simp)]
  by_cases hx : gt (rowAt E.now.objs a) f = v
  · rw [if_pos hx]
    refine ⟨h.mono (by omega), fun i g => ?_, rfl⟩
    split
    · rename_i e; obtain ⟨rfl, rfl⟩ := e; exact hx
    · rfl
  · rw [if_neg hx, do1_ok h.err (by have := h.evs; omega) (doEv_set E.now a f v ha2 (by omega) (by omega) hb)]
    have hr := fun i => setObj_row E.now a f i v ha2
    have hg : ∀ i g, gt (rowAt (E.now.setObj a f v).objs i) g = if i = a ∧ g = f then v else gt (rowAt E.now.objs i) g := fun i g => by
      rw [hr]
      by_cases e : a = i
      · subst e
        rw [if_pos rfl, gt_set _ _ _ _ (by rw [h.wid a ha2]; omega)]
        by_cases e2 : f = g
        · subst e2; rw [if_pos rfl, if_pos ⟨rfl, rfl⟩]
        · rw [if_neg e2, if_neg (fun x => e2 x.2.symm)]
      · rw [if_neg e, if_neg (fun x => e x.1.symm)]
    refine ⟨⟨h.err, h.right.onField h.wid a f v ha2 h82 hf (by rw [h.len]; exact hv), setObj_wid h.wid a f v ha2, by rw [show ({ E with now := E.now.setObj a f v, evs := E.evs ++ [[2, (a : Int), (f : Int), gt (rowAt E.now.objs a) f, v, 0]] } : Em).now = E.now.setObj a f v from rfl, setObj_len]; exact h.len, h.list, fun i => ?_, ?_, h.pend⟩, hg, rfl⟩
    · show gt (rowAt (E.now.setObj a f v).objs i) 3 = _
      rw [hg, if_neg (by omega)]; exact h.zone i
    · simp only [List.length_append, List.length_singleton]; have := h.evs; omega
theorem Fi.life {S0 : St} {n : Nat} {E : Em} (h : Fi S0 n E) (hn : n < 65536) (p : Nat) (hp : p < 2) (more : Int) : Fi S0 (n + 1) (E.life p more) ∧ (E.life p more).now.objs = E.now.objs := by
  unfold Em.life
  rw [if_neg (by rw [h.err]; simp), if_neg (by omega), Int.toNat_natCast]
  have hb : -1073741824 ≤ betw (E.now.num (p * 9) + betw more (-2147483648) 2147483648) (-1073741824) 1073741824 ∧ betw (E.now.num (p * 9) + betw more (-2147483648) 2147483648) (-1073741824) 1073741824 ≤ 1073741824 := by unfold betw; omega
  generalize betw (E.now.num (p * 9) + betw more (-2147483648) 2147483648) (-1073741824) 1073741824 = v at *
  have e := setPl_of E p 0 v hp (by omega) hb
  rw [show ((0 : Nat) : Int) = 0 from rfl] at e
  rw [e, if_neg (by rw [h.err]; simp)]
  by_cases hx : E.now.num (p * 9 + 0) = v
  · rw [if_pos hx]; exact ⟨h.mono (by omega), rfl⟩
  · rw [if_neg hx]
    have hd := doEv_plS E.now p 0 v hp (by omega) hb
    rw [show ((0 : Nat) : Int) = 0 from rfl] at hd
    rw [do1_ok h.err (by have := h.evs; omega) hd]
    exact ⟨⟨h.err, h.right.life p hp v hb, h.wid, h.len, h.list, h.zone, by simp only [List.length_append, List.length_singleton]; have := h.evs; omega, h.pend⟩, rfl⟩
end Go.Proofs.YtgobdndjemicjaaGreatDoor
namespace Go.Proofs.YtgobdndjemicjaaGreatDoor
open Go Go.RowKit Go.Shelf

/-- A right state in memory that no turn of the emitter touches. -/
structure Side (w : World) (own : Nat → Prop) (S : St) (V : SV) : Prop where
  rs : RS S V w
  ap : ∀ k, V.uses k → ¬ own k ∧ k < w.heap.size
  vars : ∀ k, (k = 2 ∨ k = 3 ∨ k = 4) → ¬ own k
theorem Side.turn {w w' : World} {own own' : Nat → Prop} {S : St} {V : SV} (h : Side w own S V) (k : Kept own w w') (o : ∀ j, own' j → own j ∨ w.heap.size ≤ j) : Side w' own' S V := by
  obtain ⟨s1, s2, s3⟩ := h.rs.glob.size
  have hs := k.size
  refine ⟨⟨h.rs.rep.kept k (fun j hj => (h.ap j hj).1), h.rs.right, h.rs.small, ⟨⟨by omega, by omega, by omega⟩, by rw [k.blk _ s1 (h.vars _ (.inl rfl)), h.rs.glob.resting], by rw [k.blk _ s2 (h.vars _ (.inr (.inl rfl))), h.rs.glob.flag], by rw [k.blk _ s3 (h.vars _ (.inr (.inr rfl))), h.rs.glob.any]⟩⟩, fun j hj => ⟨fun h2 => ?_, by have := (h.ap j hj).2; omega⟩, fun j hj h2 => ?_⟩
  · rcases o j h2 with h3 | h3
    · exact (h.ap j hj).1 h3
    · have := (h.ap j hj).2; omega
  · rcases o j h2 with h3 | h3
    · exact h.vars j hj h3
    · rcases hj with rfl | rfl | rfl <;> omega
theorem Side.grow {w w' : World} {own : Nat → Prop} {S : St} {V : SV} (h : Side w own S V) (g : Grow w w') : Side w' own S V := h.turn (g.kept own) (fun _ h => .inl h)
end Go.Proofs.YtgobdndjemicjaaGreatDoor
namespace Go.Proofs.YtgobdndjemicjaaGreatDoor
open Go Go.RowKit

/-- What the statics of cards are. -/
def statB (a : AbN) : Bool := a.wh != 5 || (decide (0 ≤ a.grp) && decide (a.grp ≤ 3) && (a.op == 10 || a.op == 23 || a.op == 24 || a.op == 25) && decide (-3 ≤ a.n) && decide (a.n ≤ 255) && decide (-3 ≤ a.m) && decide (a.m ≤ 3) && (a.op == 10 || a.op == 24 || decide (0 ≤ a.n)))
theorem stat_cards : ∀ n, n < 120 → ((cardN n).abs.all statB) = true := by decide +kernel
structure StFine (S : St) (t : StN) : Prop where
  src : 0 ≤ t.src ∧ t.src < S.objs.length
  ctl : t.ctl = gt (rowAt S.objs t.src.toNat) 2
  grp : 0 ≤ t.grp ∧ t.grp ≤ 3
  op : t.op = 10 ∨ t.op = 23 ∨ t.op = 24 ∨ t.op = 25
  n : -3 ≤ t.n ∧ t.n ≤ 255
  m : -3 ≤ t.m ∧ t.m ≤ 3
  pos : t.op = 23 ∨ t.op = 25 → 0 ≤ t.n
theorem statics_fine {S : St} (h : Right S) : ∀ t ∈ staticsN S, StFine S t := by
  intro t ht
  unfold staticsN at ht
  obtain ⟨id, hid, ht⟩ := List.mem_flatMap.1 ht
  obtain ⟨o1, o2, _, _⟩ := h.zon.ok 8 (by decide) id hid
  obtain ⟨d, rfl⟩ := Int.eq_ofNat_of_zero_le o1
  have hd : d < S.objs.length := by omega
  unfold statsOf at ht
  rw [Int.toNat_natCast] at ht
  obtain ⟨x, hx, rfl⟩ := List.mem_map.1 ht
  obtain ⟨i, rfl, hi, hw⟩ := usesN_at _ _ _ hx
  have hc := h.card hd
  have hall := stat_cards (gt (rowAt S.objs d) 0).toNat (by omega)
  have hb : statB ((kindN S d).abs.getD i ⟨0, 0, 0, 0, 0⟩) = true := by
    refine List.all_eq_true.1 hall _ ?_
    show (kindN S d).abs.getD i _ ∈ (kindN S d).abs
    rw [List.getD_eq_getElem?_getD, List.getElem?_eq_getElem hi]
    exact List.getElem_mem hi
  have e : statOf S d (i : Int) = ⟨d, gt (rowAt S.objs d) 2, ((kindN S d).abs.getD i ⟨0, 0, 0, 0, 0⟩).grp, ((kindN S d).abs.getD i ⟨0, 0, 0, 0, 0⟩).op, ((kindN S d).abs.getD i ⟨0, 0, 0, 0, 0⟩).n, ((kindN S d).abs.getD i ⟨0, 0, 0, 0, 0⟩).m⟩ := by rw [statOf, Int.toNat_natCast]
  rw [e]
  generalize (kindN S d).abs.getD i ⟨0, 0, 0, 0, 0⟩ = a at *
  unfold statB at hb
  simp only [Bool.or_eq_true, bne_iff_ne, ne_eq, Bool.and_eq_true, decide_eq_true_eq, beq_iff_eq] at hb
  rcases hb with hb | hb
  · exact absurd hw hb
  · obtain ⟨⟨⟨⟨⟨⟨⟨h1, h2⟩, h3⟩, h4⟩, h5⟩, h6⟩, h7⟩, h8⟩ := hb
    exact ⟨⟨by omega, by show (d : Int) < _; omega⟩, by show _ = gt (rowAt S.objs (d : Int).toNat) 2; rw [Int.toNat_natCast], ⟨h1, h2⟩, by rcases h3 with ((h | h) | h) | h <;> simp [h], ⟨h4, h5⟩, ⟨h6, h7⟩, fun h => by
      rcases h8 with (h' | h') | h'
      · rcases h with h | h <;> (simp only at h; omega)
      · rcases h with h | h <;> (simp only at h; omega)
      · exact h'⟩
theorem card_says : ∀ n, n < 120 → 0 ≤ (cardN n).says ∧ (cardN n).says < 256 ∧ -100 ≤ (cardN n).pw ∧ (cardN n).pw ≤ 100 ∧ -100 ≤ (cardN n).tf ∧ (cardN n).tf ≤ 100 := by decide +kernel
end Go.Proofs.YtgobdndjemicjaaGreatDoor
