/-
  The walks of an emitter's Player and Life.
-/
import Derived.Test.YtgobdndjemicjaaGreatDoorMEm
namespace Go.Proofs.YtgobdndjemicjaaGreatDoor
open Go Go.RowKit Go.Shelf

def Em.setPl (E : Em) (p f n : Int) : Em :=
  if E.err ≠ 0 then E
  else if evCheck [3, p, f, 0, 0, 0] ≠ 0 then E.do1 [3, p, f, 0, 0, 0]
  else E.set [3, p, f, 0, 0, 0] (E.now.num (p.toNat * 9 + f.toNat)) n
def betw (n least most : Int) : Int := max (min n most) least
def Em.life (E : Em) (p more : Int) : Em :=
  if E.err ≠ 0 then E
  else if ¬ (p = 0 ∨ p = 1) then { E with err := 1 }
  else E.setPl p 0 (betw (E.now.num (p.toNat * 9) + betw more (-2147483648) 2147483648) (-1073741824) 1073741824)
theorem EmOk.setPl {E : Em} {n : Nat} (h : EmOk E n) (p f v : Int) : EmOk (E.setPl p f v) (n + 1) := by
  unfold Em.setPl
  split
  · exact h.mono (Nat.le_succ n)
  split
  · exact h.do1 _
  · exact h.set _ _ _
theorem EmOk.life {E : Em} {n : Nat} (h : EmOk E n) (p v : Int) : EmOk (E.life p v) (n + 1) := by
  unfold Em.life
  split
  · exact h.mono (Nat.le_succ n)
  split
  · exact ⟨(h.mono (Nat.le_succ n)).small, h.evs, (h.mono (Nat.le_succ n)).pend⟩
  · exact h.setPl _ _ _
theorem check_pl {p f : Int} (h : evCheck [3, p, f, 0, 0, 0] = 0) : 0 ≤ p ∧ p < 2 ∧ 0 ≤ f ∧ f < 9 := by
  unfold evCheck evSpare evRanges evMakes inR evSmall inB at h
  simp only [gt, List.getD_cons_zero, List.getD_cons_succ] at h
  simp at h
  omega
@[go_sem] theorem run_build_evPl (w : World) (a f : Int) : (bdRow 122 #[(0, .int .i64 3), (1, .int .i64 a), (2, .int .i64 f)]).run Tryz.prog w = .ok (.value (.agg (cellsOf [3, a, f, 0, 0, 0]))) w := by kernel_rfl
set_option maxRecDepth 100000 in
set_option maxHeartbeats 4000000 in
theorem esetPl_any (w : World) (b : Nat) (own : Nat → Prop) (E : Em) (R : Emt w b own E) (n : Nat) (K : EmOk E n) (hn : n + 1 ≤ 1000000) (p f v : Int) :
    Calls Tryz.prog 70 #[.pointer (some ⟨b, 0, none⟩), .int .i64 p, .int .i64 f, .int .i64 v] w fun r w' => r = .returned (.tuple #[]) ∧ EPost w b own (E.setPl p f v) w' := by
  have hown := R.lt
  have HEr := Lib.hid (fun W (g : Grow w W) => err_any W b own E (R.grow g))
  have HR0 := Lib.hid R
  unfold Em.setPl
  by_cases he : E.err = 0
  · rw [if_neg (by rw [he]; simp)]
    rw [he, errV_0] at HEr
    have HC := Lib.hid (fun W => evCheck_any [3, p, f, 0, 0, 0] rfl W)
    have HD := Lib.hid (fun W (g : Grow w W) (q : Nat) (h : W.blk q = cellsOf [3, p, f, 0, 0, 0]) (hq : ¬ own q) => edo_any W b own E (R.grow g) n K (.mk q 0 1 1) [[3, p, f, 0, 0, 0]] ((one_row W q 6 _ rfl h).rows (by omega) (wid_of (fun r hr => by rw [List.mem_singleton] at hr; subst hr; rfl))) (fun _ => hq) (by simp; omega))
    have HS := Lib.hid (fun W (g : Grow w W) was => eset_any W b own E (R.grow g) n K hn [3, p, f, 0, 0, 0] rfl was v)
    have HL := Lib.hid hown
    obtain ⟨V, sd, se, sp, hr, ho⟩ := R
    have hH := hr.host
    have hcell := cell_of_blk (hH).free (hH).blk; have hfz := frozen_of_free (hH).free; have hset := setCell_of_blk (hH).free (hH).blk; have hblk := (hH).blk; have hfree := (hH).free; have hlt := (hH).lt; have hne1 : ¬ b = (w).heap.size := (by omega); have hne2 : ¬ (w).heap.size = b := (by omega)
    have hck : evCheck [3, p, f, 0, 0, 0] = 0 → 0 ≤ p ∧ p < 2 ∧ 0 ≤ f ∧ f < 9 := check_pl
    clear hr ho hH hblk K hown he
    by_cases hc : evCheck [3, p, f, 0, 0, 0] = 0
    · obtain ⟨p0, p1, f0, f1⟩ := hck hc
      rw [hc, errV_0] at HC
      clear hck
      rw [if_neg (by rw [hc]; simp)]
      obtain ⟨q, rfl⟩ := Int.eq_ofNat_of_zero_le p0
      obtain ⟨j, rfl⟩ := Int.eq_ofNat_of_zero_le f0
      rw [Int.toNat_natCast, Int.toNat_natCast]
      have hj : j < 9 := by omega
      have hq : q < 2 := by omega
      have hcg : (hoA V E.now.num (emR sd se sp E.err))[12 + q * 9 + j]? = some (I (E.now.num (q * 9 + j))) := by
        rw [hoA_lt _ _ _ _ (by omega), show 12 + q * 9 + j = 12 + (q * 9 + j) by omega, stA_num _ _ _ (by omega)]
      have hcc : w.cell? ⟨b, 12 + q * 9 + j, none⟩ = some (I (E.now.num (q * 9 + j))) := by rw [hcell]; exact hcg
      clear hc hcell hcg hset
      generalize E.now.num (q * 9 + j) = u at *
      go_enter Tryz.func70, Tryz.ntmps70
      go_wp2_with (first | (go_at_call 17; refine (HEr.out _ grI).mono ?_; rintro e' w' ⟨rfl, nx, rfl⟩) | (go_at_call 114; refine (HC.out _).mono ?_; rintro e' w' ⟨rfl, nx, rfl⟩))
      go_region_law (refine step_wanted (by rfl) ?_; go_simp; go_at_call 115; refine (HS.out _ grI _).mono ?_; rintro e' w2 ⟨rfl, hE⟩; have HE := Lib.hid hE; clear hE)
      all_goals
        go_wp2_with fail
        go_end0
        exact ⟨rfl, EPost.low grI HE.out⟩
    · rw [if_pos hc]
      rw [errV_is hc] at HC
      clear hc hck
      go_enter Tryz.func70, Tryz.ntmps70
      go_wp2_with (first | (go_at_call 17; refine (HEr.out _ grI).mono ?_; rintro e' w' ⟨rfl, nx, rfl⟩) | (go_at_call 114; refine (HC.out _).mono ?_; rintro e' w' ⟨rfl, nx, rfl⟩) | (go_at_call 90; refine (HD.out _ grI _ (by go_simp) (fun hq => by have := HL.out _ hq; (try simp only [plus_size, alloc_size'] at this); omega)).mono ?_; rintro e' w' ⟨rfl, hE⟩; have HE := Lib.hid hE; clear hE))
      refine bodyPost_ret (results_none rfl _ _ _) rfl ?_
      exact ⟨rfl, EPost.low grI HE.out⟩
  · rw [if_pos he]
    rw [errV_is he] at HEr
    clear he R K hown
    go_enter Tryz.func70, Tryz.ntmps70
    go_wp2_with (go_at_call 17; refine (HEr.out _ grI).mono ?_; rintro e' w' ⟨rfl, nx, rfl⟩)
    refine bodyPost_ret (results_none rfl _ _ _) rfl ?_
    exact ⟨rfl, .of_grow HR0.out grI⟩
theorem between_any (w : World) (n a b : Int) : Calls Tryz.prog 128 #[.int .i64 n, .int .i64 a, .int .i64 b] w fun e w' => e = .returned (.int .i64 (betw n a b)) ∧ Grow w w' := by
  go_enter Tryz.func128, Tryz.ntmps128
  go_wp2_with fail
  go_ret
  exact ⟨rfl, grI⟩
/-- Is there such a player, in an emitter without an error? -/
theorem player_good (w : World) (b : Nat) (own : Nat → Prop) (E : Em) (R : Emt w b own E) (he : E.err = 0) (p : Int) (hp : p = 0 ∨ p = 1) :
    Calls Tryz.prog 127 #[.pointer (some ⟨b, 0, none⟩), .int .i64 p] w fun e w' => e = .returned (.bool true) ∧ Grow w w' := by
  have HM := Lib.hid (fun W (g : Grow w W) => must_true W b own E (R.grow g) he 1)
  clear R he
  rcases hp with rfl | rfl
  · go_enter Tryz.func127, Tryz.ntmps127
    go_wp2_with (go_at_call 87; refine (HM.out _ grI).mono ?_; rintro e' w' ⟨rfl, nx, rfl⟩)
    go_ret
    exact ⟨rfl, grI⟩
  · go_enter Tryz.func127, Tryz.ntmps127
    go_wp2_with (go_at_call 87; refine (HM.out _ grI).mono ?_; rintro e' w' ⟨rfl, nx, rfl⟩)
    go_ret
    exact ⟨rfl, grI⟩
set_option maxRecDepth 100000 in
set_option maxHeartbeats 4000000 in
theorem elife_good (w : World) (b : Nat) (own : Nat → Prop) (E : Em) (R : Emt w b own E) (he : E.err = 0) (n : Nat) (K : EmOk E n) (hn : n + 1 ≤ 1000000) (p : Nat) (hp : p < 2) (hv : -1073741824 ≤ E.now.num (p * 9) ∧ E.now.num (p * 9) ≤ 1073741824) (more : Int) :
    Calls Tryz.prog 72 #[.pointer (some ⟨b, 0, none⟩), .int .i64 (p : Int), .int .i64 more] w fun r w' => r = .returned (.tuple #[]) ∧ EPost w b own (E.life p more) w' := by
  have HP := Lib.hid (fun W (g : Grow w W) => player_good W b own E (R.grow g) he (p : Int) (by omega))
  have HB := Lib.hid (fun W => between_any W)
  have HS := Lib.hid (fun W (g : Grow w W) v => esetPl_any W b own E (R.grow g) n K hn (p : Int) 0 v)
  have HE0 : Hid (∀ v, v = betw (E.now.num (p * 9) + betw more (-2147483648) 2147483648) (-1073741824) 1073741824 → E.life p more = E.setPl p 0 v) := fun v h => by
    subst h
    unfold Em.life
    rw [if_neg (by rw [he]; simp), if_neg (by omega), Int.toNat_natCast]
  obtain ⟨V, sd, se, sp, hr, ho⟩ := R
  have hH := hr.host
  have hcell := cell_of_blk (hH).free (hH).blk; have hfz := frozen_of_free (hH).free; have hset := setCell_of_blk (hH).free (hH).blk; have hblk := (hH).blk; have hfree := (hH).free; have hlt := (hH).lt; have hne1 : ¬ b = (w).heap.size := (by omega); have hne2 : ¬ (w).heap.size = b := (by omega)
  have hcc : w.cell? ⟨b, 12 + p * 9, none⟩ = some (I (E.now.num (p * 9))) := by rw [hcell, hoA_lt _ _ _ _ (by omega), stA_num _ _ _ (by omega)]
  have hbb : -2147483648 ≤ betw more (-2147483648) 2147483648 ∧ betw more (-2147483648) 2147483648 ≤ 2147483648 := by unfold betw; omega
  have hwr : wrap64 (E.now.num (p * 9) + betw more (-2147483648) 2147483648) = E.now.num (p * 9) + betw more (-2147483648) 2147483648 := by unfold wrap64; omega
  have hpi : (p : Int) < 2 := by omega
  have hp0 : (0 : Int) ≤ (p : Int) := by omega
  clear hr ho hH hblk K he hcell hset hbb hv
  generalize E.now.num (p * 9) = u at *
  go_enter Tryz.func72, Tryz.ntmps72
  go_wp2_with (first | (go_at_call 127; refine (HP.out _ grI).mono ?_; rintro e' w' ⟨rfl, nx, rfl⟩) | (go_at_call 128; refine (HB.out _ _ _ _).mono ?_; rintro e' w' ⟨rfl, nx, rfl⟩) | (go_at_call 70; refine (HS.out _ grI _).mono ?_; rintro e' w2 ⟨rfl, hE⟩; have HE := Lib.hid hE; clear hE))
  go_end0
  exact ⟨rfl, by rw [HE0.out _ rfl]; exact EPost.low grI HE.out⟩
end Go.Proofs.YtgobdndjemicjaaGreatDoor
